/- Steps on the blocks that a call has laid, with what turned; lists of such blocks taken apart. -/
import Derived.Test.YtpadgkkeihhneaaPart04
import Derived.Deep.AppendSrc
import Derived.Test.YtpadgkkeihhneaaPart02
import Derived.Laws.CopyOwn
import Derived.Test.YtpadgkkeihhneaaPart01
namespace Go.Proofs.Ytpadgkkeihhneaa
set_option maxRecDepth 100000
set_option linter.unusedSimpArgs false
set_option linter.unusedVariables false
open Go.ChangeShapes Go.WideShapes Go.ChangeAt Go.RowKit
set_option linter.unusedVariables false

section
variable {P : Program} {w w0 W : World} {S : List Nat} {L M : List (Nat × TypeId × List Value)} {ops : Array Oper} {rest : List Oper} {op : Oper} {a : Act} {Q : Exit → Act → World → Prop} {K : Act → World → Prop} {E : Prop}
theorem Own.sub (h : Own w0 S L W) (hs : M.Sublist L) : Own w0 S M W := ⟨fun e he => h.has e (hs.mem he), h.apart.sublist (hs.map _), h.touch, h.old⟩
theorem Own.perm (h : Own w0 S L W) (hp : L.Perm M) : Own w0 S M W := ⟨fun e he => h.has e (hp.mem_iff.2 he), (hp.map _).nodup_iff.1 h.apart, h.touch, h.old⟩
theorem Own.swap {x y : Nat × TypeId × List Value} (h : Own w0 S (L ++ [x] ++ [y]) W) : Own w0 S (L ++ [y] ++ [x]) W := h.perm (by
  rw [List.append_assoc, List.append_assoc]
  exact (List.Perm.swap y x []).append_left L)
theorem wpList_store_own_t (HO : Own w0 S L w) (hgd : op.guard = none) (ty : TypeId) (x y : Operand) (ho : op.op = .store ty x y) (i g o : Nat) (t : TypeId) (old vs new : List Value) (hL : L[i]? = some (g, t, old))
    (v : Value) (hx : a.eval x = .pointer (some ⟨g, o, none⟩)) (hy : a.eval y = v) (hv : Fits v vs) (hs : o + vs.length ≤ old.length) (hn : old.take o ++ vs ++ old.drop (o + vs.length) = new)
    (hi : (P.info? ty).map (·.size) = some vs.length) (h1 : vs.all (·.oneCell') = true)
    (h : ∀ w', Own w0 S (L.set i (g, t, new)) w' → Blk w g t old.toArray → Touch [g] w w' → wpList P ops Q rest (a.put op.dst undef) w') : wpList P ops Q (op :: rest) a w := wpList_plain hgd fun K hK => by
  unfold Oper.wp execOp
  simp only [ho, hx, hy, Sem.run_bind, run_store_own hv (HO.blk i hL) hs hi h1, Result.andThen_ok]
  exact hK _ _ (h _ (own_store HO i hL hs hn) (HO.blk i hL) (touch_setCells w g o _).1)
theorem step_store_own_t (HO : Own w0 S L w) (hw : Region.wanted op (yielded ops a.tmps) = true) (ty : TypeId) (x y : Operand) (ho : op.op = .store ty x y) (i g o : Nat) (t : TypeId) (old vs new : List Value) (hL : L[i]? = some (g, t, old))
    (v : Value) (hx : a.eval x = .pointer (some ⟨g, o, none⟩)) (hy : a.eval y = v) (hv : Fits v vs) (hs : o + vs.length ≤ old.length) (hn : old.take o ++ vs ++ old.drop (o + vs.length) = new)
    (hi : (P.info? ty).map (·.size) = some vs.length) (h1 : vs.all (·.oneCell') = true)
    (h : ∀ w', Own w0 S (L.set i (g, t, new)) w' → Blk w g t old.toArray → Touch [g] w w' → K (a.put op.dst undef) w') : if Region.wanted op (yielded ops a.tmps) = true then Oper.wp P op a w K Q else E := by
  rw [if_pos hw]
  unfold Oper.wp execOp
  simp only [ho, hx, hy, Sem.run_bind, run_store_own hv (HO.blk i hL) hs hi h1, Result.andThen_ok]
  exact h _ (own_store HO i hL hs hn) (HO.blk i hL) (touch_setCells w g o _).1
theorem wpList_alloc_own_t (HO : Own w0 S L w) (hgd : op.guard = none) (t : TypeId) (ho : op.op = .alloc t) (cs : List Value) (hi : (P.info? t).map (·.zero) = some (some (.agg cs.toArray)))
    (h : ∀ w' b, Own w0 S (L ++ [(b, t, cs)]) w' → Below w.heap.size w w' → wpList P ops Q rest (a.put op.dst (.pointer (some ⟨b, 0, none⟩))) w') : wpList P ops Q (op :: rest) a w :=
  wpList_alloc_blk hgd t ho cs.toArray hi fun w' h1 h2 _ => h w' _ (HO.push h1 h2) h2
theorem wpList_box_own_t (HO : Own w0 S L w) (hgd : op.guard = none) (t : TypeId) (x : Operand) (ho : op.op = .box t x) (cs : List Value) (hx : a.eval x = .agg cs.toArray)
    (h : ∀ w' b, Own w0 S (L ++ [(b, t, cs)]) w' → Below w.heap.size w w' → wpList P ops Q rest (a.put op.dst (.pointer (some ⟨b, 0, none⟩))) w') : wpList P ops Q (op :: rest) a w :=
  wpList_box_blk hgd t x ho cs.toArray hx fun w' h1 h2 _ => h w' _ (HO.push h1 h2) h2
theorem step_slice_own_t (HO : Own w0 S L w) (hw : Region.wanted op (yielded ops a.tmps) = true) (t e : TypeId) (len : Nat) (parts : Array (Nat × Operand)) (ho : op.op = .buildSlice t len parts) (hu : P.underlying t = some (.slice e)) (cs : List Value)
    (hf : P.builtSlice e len (parts.map fun (i, x) => (i, a.eval x)).toList = some cs.toArray)
    (h : ∀ w' b, Own w0 S (L ++ [(b, e, cs)]) w' → Below w.heap.size w w' → K (a.put op.dst (.slice (some ⟨b, 0, none⟩) len len)) w') : if Region.wanted op (yielded ops a.tmps) = true then Oper.wp P op a w K Q else E := by
  rw [if_pos hw]
  have hp : (Instr.buildSlice t len (parts.map fun (i, x) => (i, a.eval x))).run P w = .ok (.slice (some ⟨w.heap.size, 0, none⟩) len len) (w.alloc (.cells cs.toArray e)) := by
    unfold Program.builtSlice at hf
    cases hie : P.info? e with
    | none => simp [hie] at hf
    | some ie =>
      cases hz : ie.zero with
      | none => simp [hie, hz] at hf
      | some z =>
        simp only [hie, hz] at hf
        split at hf
        · cases hf
        · rename_i hn
          exact run_buildSlice w t e len _ _ ie z hu hie hz (fun h => hn (.inl h)) (fun h => hn (.inr h)) hf
  unfold Oper.wp execOp
  simp only [ho, Sem.run_bind, hp, Result.andThen_ok]
  exact h _ _ (HO.push (Blk.new w e cs.toArray) ((Below.refl _ _).alloc (Nat.le_refl _) _)) ((Below.refl _ _).alloc (Nat.le_refl _) _)
end
theorem tail_0 {goal : Prop} {G I : World → Prop} (main : (∀ w, I w → G w) → goal) (tl : ∀ w, I w → G w) : goal := main tl
theorem tail_1 {goal : Prop} {G I : Nat → World → Prop} (main : (∀ b w, I b w → G b w) → goal) (tl : ∀ b w, I b w → G b w) : goal := main tl
theorem tail_2 {goal : Prop} {G I : Nat → Nat → World → Prop} (main : (∀ b c w, I b c w → G b c w) → goal) (tl : ∀ b c w, I b c w → G b c w) : goal := main tl
theorem tail_3 {goal : Prop} {G I : Nat → Nat → Nat → World → Prop} (main : (∀ b c d w, I b c d w → G b c d w) → goal) (tl : ∀ b c d w, I b c d w → G b c d w) : goal := main tl
end Go.Proofs.Ytpadgkkeihhneaa
/- Slices of texts: one that is read (Sl), one that owns the block it lies in (Strs). -/
namespace Go.Proofs.Ytpadgkkeihhneaa
set_option maxRecDepth 100000
set_option linter.unusedSimpArgs false
set_option linter.unusedVariables false
open Go.ChangeShapes Go.WideShapes Go.ChangeAt Go.RowKit
set_option linter.unusedVariables false

/-- A text as a value. -/
def sv (l : List UInt8) : Value := .string ⟨l.toArray⟩
theorem sv_one (l : List UInt8) : (sv l).oneCell' = true := rfl
theorem sv_of (s : ByteArray) : .string s = sv s.data.toList := rfl
theorem sv_inj {a b : List UInt8} (h : sv a = sv b) : a = b := by
  unfold sv at h
  injection h with h
  injection h with h
  exact List.toArray_inj h
/-- The slice v reads as the texts l. -/
def Sl (w : World) (v : Value) (l : List (List UInt8)) : Prop :=
  ∃ A c, v = .slice A l.length c ∧ l.length ≤ c ∧ c ≤ maxLen ∧ (0 < l.length → ∃ b off, A = some ⟨b, off, none⟩ ∧ b < w.heap.size ∧ ∀ j (h : j < l.length), w.cell? ⟨b, off + j, none⟩ = some (sv l[j]))
/-- .. and nobody else has the block that it lies in. -/
def Strs (w : World) (v : Value) (l : List (List UInt8)) : Prop :=
  (v = .slice none 0 0 ∧ l = []) ∨ ∃ g off cap cur, v = .slice (some ⟨g, off, none⟩) l.length cap ∧ w.heap[g]? = some (.cells cur 9 (0, 0)) ∧ l.length ≤ cap ∧ cap ≤ maxLen ∧ off + cap ≤ cur.size ∧ (cur.toList.drop off).take l.length = l.map sv
theorem Sl.nil (w : World) : Sl w (.slice none 0 0) [] := ⟨none, 0, rfl, Nat.le_refl _, by unfold maxLen; omega, fun h => by simp at h⟩
theorem Strs.nil (w : World) : Strs w (.slice none 0 0) [] := .inl ⟨rfl, rfl⟩
theorem Strs.sl {w : World} {v : Value} {l : List (List UInt8)} (h : Strs w v l) : Sl w v l := by
  rcases h with ⟨rfl, rfl⟩ | ⟨g, off, cap, cur, rfl, hg, h1, h2, h3, h4⟩
  · exact Sl.nil w
  · refine ⟨_, cap, rfl, h1, h2, fun h0 => ⟨g, off, rfl, (Array.getElem?_eq_some_iff.1 hg).1, fun j hj => ?_⟩⟩
    rw [cell_of_row w g (off + j) cur _ _ hg]
    have : ((cur.toList.drop off).take l.length)[j]? = (l.map sv)[j]? := by rw [h4]
    rw [List.getElem?_take, if_pos hj, List.getElem?_drop, Array.getElem?_toList] at this
    rw [this]
    simp [hj]
theorem Sl.touch {S : List Nat} {w w' : World} {v : Value} {l : List (List UInt8)} (h : Sl w v l) (k : Touch S w w') (hv : l ≠ [] → ∀ j, v.ownBlock = some j → j ∉ S) : Sl w' v l := by
  obtain ⟨A, c, rfl, h1, h2, h3⟩ := h
  refine ⟨A, c, rfl, h1, h2, fun h0 => ?_⟩
  obtain ⟨b, off, rfl, hb, hc⟩ := h3 h0
  have hk := k.block b hb (hv (by rintro rfl; simp at h0) b rfl)
  exact ⟨b, off, rfl, Nat.lt_of_lt_of_le hb k.size, fun j hj => (World.cell?_of_block hk).trans (hc j hj)⟩
theorem Sl.step {w w' : World} {v : Value} {l : List (List UInt8)} (h : Sl w v l) (hb : Below w.heap.size w w') : Sl w' v l := h.touch (Touch.below hb []) (by simp)
theorem Strs.touch {S : List Nat} {w w' : World} {v : Value} {l : List (List UInt8)} (h : Strs w v l) (k : Touch S w w') (hv : ∀ j, v.ownBlock = some j → j ∉ S) : Strs w' v l := by
  rcases h with h | ⟨g, off, cap, cur, rfl, hg, r⟩
  · exact .inl h
  · exact .inr ⟨g, off, cap, cur, rfl, (k.block g (Array.getElem?_eq_some_iff.1 hg).1 (hv g rfl)).trans hg, r⟩
theorem Strs.step {w w' : World} {v : Value} {l : List (List UInt8)} (h : Strs w v l) (hb : Below w.heap.size w w') : Strs w' v l := h.touch (Touch.below hb []) (by simp)
theorem Strs.lt {w : World} {v : Value} {l : List (List UInt8)} (h : Strs w v l) : ∀ j, v.ownBlock = some j → j < w.heap.size := by
  rcases h with ⟨rfl, _⟩ | ⟨g, off, cap, cur, rfl, hg, r⟩
  · intro j hj; cases hj
  · intro j hj; injection hj with hj; subst hj; exact (Array.getElem?_eq_some_iff.1 hg).1
theorem Sl.formN {w : World} {v : Value} {l : List (List UInt8)} (h : Sl w v l) : ∃ A m c, v = .slice A m c ∧ Hid (m = l.length) ∧ m ≤ c ∧ c ≤ 9223372036854775807 := by
  obtain ⟨A, c, hv, h1, h2, _⟩ := h
  exact ⟨A, _, c, hv, rfl, h1, by unfold maxLen at h2; omega⟩
theorem Strs.formN {w : World} {v : Value} {l : List (List UInt8)} (h : Strs w v l) : ∃ A m c, v = .slice A m c ∧ Hid (m = l.length) ∧ m ≤ c ∧ c ≤ 9223372036854775807 := h.sl.formN
theorem Sl.at_ {w : World} {A : Option Addr} {n c : Nat} {l : List (List UInt8)} (h : Sl w (.slice A n c) l) (j : Nat) (hj : j < l.length) : ∃ b off, A = some ⟨b, off, none⟩ ∧ b < w.heap.size ∧ w.cell? ⟨b, off + j, none⟩ = some (sv (l.getD j [])) := by
  obtain ⟨A', c', hv, h1, h2, h3⟩ := h
  injection hv with e1 e2 e3
  subst e1 e2 e3
  obtain ⟨b, off, rfl, hb, hc⟩ := h3 (by omega)
  refine ⟨b, off, rfl, hb, ?_⟩
  rw [hc j hj]
  simp [List.getD, hj]
theorem info_str : (Try.prog.info? 9).map (fun i => (i.zero, i.size, i.bytes)) = some (some (.string ⟨#[]⟩), 1, 16) := by kernel_rfl
/-- l[1:] -/
theorem Strs.tail {w : World} {A : Option Addr} {n c : Nat} {x : List UInt8} {l : List (List UInt8)} (h : Strs w (.slice A n c) (x :: l)) : Strs w (.slice (if c = 1 then A else A.map (·.add 1)) (n - 1) (c - 1)) l := by
  rcases h with ⟨_, h⟩ | ⟨g, off, cap, cur, hv, hg, h1, h2, h3, h4⟩
  · cases h
  · injection hv with e1 e2 e3
    subst e1 e2 e3
    rw [List.length_cons] at h1 h4
    by_cases h0 : c = 1
    · have hl : l = [] := List.eq_nil_of_length_eq_zero (by omega)
      subst hl
      rw [if_pos h0]
      exact .inr ⟨g, off, c - 1, cur, by simp, hg, by simp, by omega, by omega, by simp⟩
    · rw [if_neg h0]
      refine .inr ⟨g, off + 1, c - 1, cur, by simp [add_plain], hg, by omega, by omega, by omega, ?_⟩
      have := congrArg (List.drop 1) h4
      rw [List.drop_take, List.drop_drop] at this
      simpa using this
theorem take_all2 {α : Type} {n : Nat} (l r : List α) (h : n = l.length) : (l ++ r).take n = l := by rw [h, List.take_left]
/-- append(v, x) onto an own slice. -/
theorem run_append_strs {w : World} (ty : TypeId) {v : Value} {l : List (List UInt8)} (hv : Strs w v l) (g c : Nat) (s : List UInt8) (hx : w.cell? ⟨g, 0, none⟩ = some (sv s)) (hlen : l.length ≤ 1000000) :
    ∃ v' w', (Builtin.append_ #[37, 37] ty #[v, .slice (some ⟨g, 0, none⟩) 1 c]).run Try.prog w = .ok v' w' ∧ Strs w' v' (l ++ [s]) ∧ w.grownBy w' v.ownBlock ∧ (v'.ownBlock = v.ownBlock ∨ v'.ownBlock = some w.heap.size) := by
  obtain ⟨i0, hi0, hz0, hz1, hz2⟩ := info_parts info_str
  have hnews : ∀ j u, [sv s][j]? = some u → w.cell? ((⟨g, 0, none⟩ : Addr).add j) = some u := by
    intro j u hj
    cases j with
    | zero => simp at hj; subst hj; rw [add_plain]; exact hx
    | succ j => simp at hj
  have hb0 : ∀ n, n ≤ 4000100 → n * i0.bytes ≤ 281474976710656 := fun n hn => by rw [hz2]; omega
  rcases hv with ⟨rfl, rfl⟩ | ⟨b, off, cap, cur, rfl, hg, h1, h2, h3, h4⟩
  · refine ⟨_, _, run_append_nil (P := Try.prog) w 37 ty 9 i0 _ Try.underlying37 hi0 hz0 ⟨g, 0, none⟩ 1 c [sv s] (by rw [hz1]; rfl) hnews (by omega) (by omega) (hb0 1 (by omega)), ?_, grown_alloc (grown_drew (grown_refl _ _)) _, .inr rfl⟩
    have hle : 1 ≤ grownCap w 1 0 9 := grownCap_ge w 1 0 _
    refine .inr ⟨w.heap.size, 0, _, _, rfl, heap_alloc_new w.drew _, by simpa using hle, grownCap_le_maxLen w 1 0 _ (by unfold maxLen; omega), ?_, by simp⟩
    simp [size_zeroCells, Value.cells]; omega
  · by_cases hroom : l.length + 1 ≤ cap
    · have hc0 : ∀ j, j < [sv s].length → (w.cell? ⟨b, off + l.length * i0.size + j, none⟩).isSome = true := fun j hj => by
        simp at hj; subst hj
        rw [hz1, cell_of_row w b _ cur _ _ hg, Array.getElem?_eq_getElem (by omega)]; rfl
      have hr := run_append_room_src (P := Try.prog) w 37 37 ty 9 i0 Try.underlying37 hi0 b off l.length cap _ 1 [sv s]
        (Src.ofSlice (P := Try.prog) w Try.underlying37 ⟨g, 0, none⟩ 1 c [sv s] (by rw [hz1]; rfl) hnews (by simp [sv_one])) hroom hc0 (fun j hj => by simp [World.frozen?, hg])
      have hB : Blk w b 9 cur := hg
      have hB2 := Blk.setCells [sv s] (off + l.length * i0.size) w cur hB (by rw [hz1]; simp; omega)
      refine ⟨_, _, hr, .inr ⟨b, off, cap, _, by simp, hB2, by simpa using hroom, h2, ?_, ?_⟩, ?_, .inl rfl⟩
      · rw [hz1]; simp; omega
      · rw [hz1, Nat.mul_one, List.drop_append_of_le_length (by simp; omega), List.drop_append_of_le_length (by simp; omega), List.drop_take]
        rw [show off + l.length - off = l.length by omega, h4]
        rw [List.length_append, List.take_append_of_le_length (by simp)]
        rw [List.take_of_length_le (by simp)]
        simp
      · exact (touch_setCells w b _ [sv s]).1.of_one
    · have holds : ∀ j u, (l.map sv)[j]? = some u → w.cell? ((⟨b, off, none⟩ : Addr).add j) = some u := fun j u hj => by
        rw [add_plain, cell_of_row w b (off + j) cur _ _ hg, ← h4] at *
        rw [List.getElem?_take] at hj
        split at hj
        · rw [List.getElem?_drop, Array.getElem?_toList] at hj; exact hj
        · cases hj
      have hle : l.length + 1 ≤ grownCap w (l.length + 1) cap 9 := grownCap_ge w _ cap _
      refine ⟨_, _, run_append_grow (P := Try.prog) w 37 ty 9 i0 _ Try.underlying37 hi0 hz0 ⟨b, off, none⟩ l.length cap (l.map sv) (by rw [hz1]; simp) holds ⟨g, 0, none⟩ 1 c [sv s] (by rw [hz1]; rfl) hnews (by omega) (by omega)
        (growslice_fits (by omega) (by rw [hz2]; omega)), ?_, grown_alloc (grown_drew (grown_refl _ _)) _, .inr rfl⟩
      refine .inr ⟨w.heap.size, 0, grownCap w (l.length + 1) cap 9, _, by simp, heap_alloc_new w.drew _, by simpa using hle, grownCap_le_maxLen w _ cap _ (by unfold maxLen; omega), ?_, ?_⟩
      · simp [size_zeroCells, Value.cells]; omega
      · rw [List.drop_zero]
        simp only [List.length_append, List.length_cons, List.length_nil, Array.toList_append, List.map_append, List.map_cons, List.map_nil, Nat.zero_add, List.append_toArray]
        exact take_all2 _ _ (by simp)
end Go.Proofs.Ytpadgkkeihhneaa
/- page, (part).bytes. -/
namespace Go.Proofs.Ytpadgkkeihhneaa
set_option maxRecDepth 100000
set_option linter.unusedSimpArgs false
set_option linter.unusedVariables false
open Go.ChangeShapes Go.WideShapes Go.ChangeAt Go.RowKit
set_option linter.unusedVariables false

theorem at_copy (x y : Operand) {tt : Array TypeId} {P : Program} {w : World} {ops : Array Oper} {rest : List Oper} {d : Option Tmp} {t : TypeId} {p : String} {af : Array Edge} {g : Option (Nat × Bool)} {a : Act} {Q : Exit → Act → World → Prop}
    (h : wpList P ops Q ({ dst := d, op := .call { callee := .builtin .copy, args := #[x, y], argTypes := tt }, type := t, pos := p, after := af, guard := g } :: rest) a w) : wpList P ops Q ({ dst := d, op := .call { callee := .builtin .copy, args := #[x, y], argTypes := tt }, type := t, pos := p, after := af, guard := g } :: rest) a w := h
theorem make128 (W : World) : (Instr.makeSlice 59 (.int .i64 128) (.int .i64 128)).run Try.prog W = .ok (.slice (some ⟨W.heap.size, 0, none⟩) 128 128) (W.alloc (.cells (zb 128) 5)) := run_make_bytes 128 (by decide) W
theorem Bs.src {w : World} {A : Option Addr} {n c : Nat} {l : List UInt8} (h : Bs w (.slice A n c) l) (h0 : 0 < (l.map bv).length) : ∃ ad, A = some ad ∧ ∀ j v, (l.map bv)[j]? = some v → w.cell? (ad.add j) = some v := by
  obtain ⟨A', c', hv, h1, h2, h3⟩ := h
  injection hv with e1 e2 e3
  subst e1 e2 e3
  rw [List.length_map] at h0
  obtain ⟨b, off, rfl, hb, hc⟩ := h3 h0
  refine ⟨_, rfl, fun j v hj => ?_⟩
  rw [List.getElem?_map] at hj
  have hjl : j < l.length := by
    rcases Nat.lt_or_ge j l.length with h | h
    · exact h
    · rw [List.getElem?_eq_none h] at hj; cases hj
  rw [List.getElem?_eq_getElem hjl] at hj
  rw [add_plain, hc j hjl]
  exact hj
theorem splice_page (l : List UInt8) (h : l.length ≤ 128) : splice (zb 128).toList 0 (l.map bv) = (l ++ List.replicate (128 - l.length) 0).map bv := by
  unfold splice
  rw [zb_list, List.take_zero, List.nil_append, ← List.map_drop, ← List.map_append]
  rw [List.length_map, Nat.zero_add, List.drop_replicate]
theorem Ow.of_blk {w : World} {base g n : Nat} {l : List UInt8} (h : Blk w g 5 (l.map bv).toArray) (hb : base ≤ g) (hn : n = l.length) (hl : l.length ≤ maxLen) : Ow w base (.slice (some ⟨g, 0, none⟩) n n) l := by
  subst hn
  exact ⟨by simp, .inr ⟨g, l.length, _, rfl, hb, h, Nat.le_refl _, hl, by simp, by rw [List.take_of_length_le (by simp)]⟩⟩
set_option maxHeartbeats 1000000 in
theorem page_c (v : Value) (l : List UInt8) (hl : l.length ≤ 124) (w : World) (h : Bs w v l) : Calls Try.prog 24 #[v] w (Fresh w (pageOf l)) := by
  have hm := make128
  have H := hide h
  have HL := hide hl
  clear h hl
  have i1 : (Try.prog.info? 5).map (·.size) = some 1 := by kernel_rfl
  have I1 := hide i1
  clear i1
  go_enter Try.func24, Try.ntmps24
  go_wp2_with fail
  clear hm
  have HV := hide (H.out.alloc (.cells (zb 128) 5))
  have HB1 := hide (Blk.new w 5 (zb 128))
  have HW := hide ((Below.refl w.heap.size w).alloc (Nat.le_refl _) (.cells (zb 128) 5))
  obtain ⟨g, hg⟩ : ∃ g, w.heap.size = g := ⟨_, rfl⟩
  have HG := hide hg
  rw [hg] at HB1 HW ⊢
  clear hg
  generalize w.alloc (.cells (zb 128) 5) = w1 at *
  refine (seal_c v l w1 HV.out (by have := HL.out; omega)).mono ?_
  rintro e w2 ⟨v2, rfl, ho, hb⟩
  obtain ⟨A, m, c, rfl, hm, _, _⟩ := ho.formN
  have HB2 := hide (HB1.out.step hb)
  have HW2 := hide (HW.out.trans (hb.mono (Nat.le_of_lt HB1.out.lt)))
  have HBS := hide ho.bs
  have HM : Hid (((seal_ l).map bv).length = Nat.min m 128) := by
    unfold Hid
    have := HL.out
    have e := seal_len l
    rw [hm.out, List.length_map]
    exact (Nat.min_eq_left (by omega)).symm
  have HF : Hid (0 + ((seal_ l).map bv).length ≤ (zb 128).toList.length) := by
    unfold Hid
    have := HL.out
    have e := seal_len l
    rw [zb_list]; simp; omega
  clear ho hb hm
  go_wp2_with ((with_reducible refine at_copy (.tmp 5) (.tmp 7) ?_); refine wpList_copy_splice rfl (.tmp 5) (.tmp 7) 59 59 rfl 5 Try.underlying59 I1.out (some ⟨g, 0, none⟩) A 128 128 m c rfl rfl g 0 (zb 128).toList 5 HB2.out ((seal_ l).map bv) HM.out (fun h0 => ⟨rfl, HBS.out.src h0⟩) HF.out (fun u hu => by obtain ⟨x, _, rfl⟩ := List.mem_map.1 hu; exact bv_one x) g w HW2.out (Nat.le_refl _) ?_; intro w3 hg3 hb3)
  go_ret
  have hz : (seal_ l).length ≤ 128 := by have := HL.out; rw [seal_len]; omega
  have hp := pageOf_len l HL.out
  have h3 := hg3.out
  rw [splice_page (seal_ l) hz] at h3
  have hge := HG.out
  subst hge
  exact ⟨_, rfl, Ow.of_blk h3 (Nat.le_refl _) hp.symm (by rw [hp]; decide), hb3⟩
end Go.Proofs.Ytpadgkkeihhneaa
/- More steps on the blocks that a call has laid: where a new block lies; a call that turns others. -/
namespace Go.Proofs.Ytpadgkkeihhneaa
set_option maxRecDepth 100000
set_option linter.unusedSimpArgs false
set_option linter.unusedVariables false
open Go.ChangeShapes Go.WideShapes Go.ChangeAt Go.RowKit
set_option linter.unusedVariables false

/-- A call that turns blocks which are new and not among those of L. -/
theorem Own.away {w0 W W' : World} {S T : List Nat} {L : List (Nat × TypeId × List Value)} (h : Own w0 S L W) (ht : Touch T W W') (hT : ∀ s ∈ T, s ∈ S ∨ (w0.heap.size ≤ s ∧ s ∉ L.map (·.1))) : Own w0 S L W' :=
  ⟨fun e he => ⟨(h.has e he).1.touch ht (fun hm => by
    rcases hT _ hm with h1 | ⟨_, h1⟩
    · have := h.old _ h1; have := (h.has e he).2; omega
    · exact h1 (List.mem_map.2 ⟨e, he, rfl⟩)), (h.has e he).2⟩, h.apart, h.touch.next ht (fun t hm => (hT t hm).imp id (·.1)), h.old⟩
section
variable {P : Program} {w w0 W : World} {S : List Nat} {L M : List (Nat × TypeId × List Value)} {ops : Array Oper} {rest : List Oper} {op : Oper} {a : Act} {Q : Exit → Act → World → Prop} {K : Act → World → Prop} {E : Prop}
theorem wpList_alloc_own_n (HO : Own w0 S L w) (hgd : op.guard = none) (t : TypeId) (ho : op.op = .alloc t) (cs : List Value) (hi : (P.info? t).map (·.zero) = some (some (.agg cs.toArray)))
    (h : ∀ w' b, b = w.heap.size → Own w0 S (L ++ [(b, t, cs)]) w' → Below w.heap.size w w' → wpList P ops Q rest (a.put op.dst (.pointer (some ⟨b, 0, none⟩))) w') : wpList P ops Q (op :: rest) a w :=
  wpList_alloc_blk hgd t ho cs.toArray hi fun w' h1 h2 _ => h w' _ rfl (HO.push h1 h2) h2
theorem step_alloc_own_n (HO : Own w0 S L w) (hw : Region.wanted op (yielded ops a.tmps) = true) (t : TypeId) (ho : op.op = .alloc t) (cs : List Value) (hi : (P.info? t).map (·.zero) = some (some (.agg cs.toArray)))
    (h : ∀ w' b, b = w.heap.size → Own w0 S (L ++ [(b, t, cs)]) w' → Below w.heap.size w w' → K (a.put op.dst (.pointer (some ⟨b, 0, none⟩))) w') : if Region.wanted op (yielded ops a.tmps) = true then Oper.wp P op a w K Q else E := by
  rw [if_pos hw]
  unfold Oper.wp execOp
  simp only [ho, Sem.run_bind, run_alloc hi, Result.andThen_ok]
  exact h _ _ rfl (HO.push (Blk.new w t cs.toArray) ((Below.refl _ _).alloc (Nat.le_refl _) _)) ((Below.refl _ _).alloc (Nat.le_refl _) _)
theorem wpList_load_own_g (HO : Own w0 S L w) (hw : Region.wanted op (yielded ops a.tmps) = true) (ty : TypeId) (x : Operand) (ho : op.op = .load ty x) (i g o n : Nat) (t : TypeId) (cs vs : List Value) (d : TypeDesc) (hL : L[i]? = some (g, t, cs)) (hv : (cs.drop o).take n = vs)
    (hx : a.eval x = .pointer (some ⟨g, o, none⟩)) (hu : P.underlying ty = some d) (hd : d.isRow = true) (hi : (P.info? ty).map (·.size) = some vs.length)
    (h : wpList P ops Q rest (a.put op.dst (.agg vs.toArray)) w) : wpList P ops Q (op :: rest) a w :=
  wpList_step fun K hK => by
    rw [if_pos hw]
    exact wp_load_mid ty x ho g o hx vs d (own_range HO i hL hv) hu hd hi (hK _ _ h)
end
theorem splice_set {l : List Value} (o : Nat) (v : Value) (h : o < l.length) : l.take o ++ [v] ++ l.drop (o + 1) = l.set o v := by
  rw [List.set_eq_take_append_cons_drop, if_pos h]; simp
end Go.Proofs.Ytpadgkkeihhneaa
/- (part).bytes. -/
namespace Go.Proofs.Ytpadgkkeihhneaa
set_option maxRecDepth 100000
set_option linter.unusedSimpArgs false
set_option linter.unusedVariables false
open Go.ChangeShapes Go.WideShapes Go.ChangeAt Go.RowKit
set_option linter.unusedVariables false

/-- A part as a value. -/
def pv (x : Prt) : Value := .agg #[.int .i64 x.turn, .int .i64 x.index, .int .i64 x.p, .int .i64 x.q, sv x.text]
def encN (l : List Nat) : List UInt8 := (l.map enc).flatten
theorem encN_snoc (l : List Nat) (n : Nat) : encN (l ++ [n]) = encN l ++ enc n := by simp [encN]
def nums (x : Prt) : List Nat := [x.turn, x.index, x.p, x.q]
theorem prtBytes_nums (x : Prt) : prtBytes x = encN (nums x) ++ encL x.text := by simp [prtBytes, encN, nums]
theorem nums_take (x : Prt) (k : Nat) (h : k < 4) : (nums x).take (k + 1) = (nums x).take k ++ [(nums x).getD k 0] := by
  rcases (show k = 0 ∨ k = 1 ∨ k = 2 ∨ k = 3 by omega) with rfl | rfl | rfl | rfl <;> rfl
theorem nums_lt (x : Prt) (h : x.Small) (k : Nat) : (nums x).getD k 0 < 2 ^ 63 := by
  obtain ⟨h1, h2, h3, h4, h5⟩ := h
  match k with
  | 0 => show x.turn < _; omega
  | 1 => show x.index < _; omega
  | 2 => show x.p < _; omega
  | 3 => show x.q < _; omega
  | k + 4 => show (0 : Nat) < _; omega
theorem encN_len (x : Prt) (h : x.Small) (k : Nat) : (encN ((nums x).take k)).length ≤ 118 := by
  have := prtBytes_len x h
  rw [prtBytes_nums, List.length_append] at this
  have h2 : encN (nums x) = encN ((nums x).take k) ++ encN ((nums x).drop k) := by
    unfold encN; rw [← List.flatten_append, ← List.map_append, List.take_append_drop]
  rw [h2, List.length_append] at this
  omega
/-- Integers as cells. -/
def intCells (l : List Nat) : List Value := l.map fun n : Nat => Value.int .i64 (n : Int)
def NumL (x : Prt) (w : World) (bp bi : Nat) (v : Value) (k : Nat) (W : World) : Prop :=
  Own w [] [(bp, 74, [.int .i64 x.turn, .int .i64 x.index, .int .i64 x.p, .int .i64 x.q, sv x.text]), (bi, 3, intCells (nums x))] W ∧ Ow W (bi + 1) v (encN ((nums x).take k))
theorem intCells_at (l : List Nat) (k : Nat) (h : k < l.length) : (intCells l)[k]? = some (.int .i64 (l.getD k 0 : Nat)) := by
  unfold intCells
  rw [List.getElem?_map, List.getElem?_eq_getElem h]
  simp [List.getD, h]
theorem Fresh.then {w w1 w2 : World} {l : List UInt8} {e : Ending} (h : Fresh w1 l e w2) (hb : Below w.heap.size w w1) : Fresh w l e w2 := by
  obtain ⟨v, he, ho, hb2⟩ := h
  exact ⟨v, he, ho.mono hb.size, hb.trans (hb2.mono hb.size)⟩
set_option maxHeartbeats 1000000 in
theorem bytes_c (x : Prt) (hx : x.Small) (w : World) : Calls Try.prog 39 #[pv x] w (Fresh w (prtPage x)) := by
  have HX := hide hx
  unfold pv
  clear hx
  have HO := hide (Own.nil w [] (by simp))
  go_enter Try.func39, Try.ntmps39
  go_wp2_with fail
  replace HO := hide (HO.out.push (Blk.new w 74 #[.int .i64 x.turn, .int .i64 x.index, .int .i64 x.p, .int .i64 x.q, sv x.text]) ((Below.refl _ _).alloc (Nat.le_refl _) _))
  replace HO := hide (HO.out.push (Blk.new _ 3 #[.int .i64 x.turn, .int .i64 x.index, .int .i64 x.p, .int .i64 x.q]) ((Below.refl _ _).alloc (Nat.le_refl _) _))
  have HSZ := hide (World.size_alloc (w := w) (.cells #[.int .i64 x.turn, .int .i64 x.index, .int .i64 x.p, .int .i64 x.q, sv x.text] 74))
  have HSW := hide (World.size_alloc (w := (w.alloc (.cells #[.int .i64 x.turn, .int .i64 x.index, .int .i64 x.p, .int .i64 x.q, sv x.text] 74))) (.cells #[.int .i64 x.turn, .int .i64 x.index, .int .i64 x.p, .int .i64 x.q] 3))
  generalize ((w.alloc (.cells #[.int .i64 x.turn, .int .i64 x.index, .int .i64 x.p, .int .i64 x.q, sv x.text] 74)).alloc (.cells #[.int .i64 x.turn, .int .i64 x.index, .int .i64 x.p, .int .i64 x.q] 3)) = wB at *
  rw [HSZ.out] at HO HSW
  obtain ⟨bp, hbp⟩ : ∃ bp, w.heap.size = bp := ⟨_, rfl⟩
  have HBP := hide hbp
  rw [hbp] at HO HSW ⊢
  clear hbp HSZ
  obtain ⟨bi, hbi⟩ : ∃ bi, bp + 1 = bi := ⟨_, rfl⟩
  have HBI := hide hbi
  rw [hbi] at HO HSW ⊢
  clear hbi
  go_loopw [3, 16] (fun v i wr => ∃ k : Nat, k ≤ 4 ∧ i = .int .i64 k ∧ NumL x w bp bi v k wr) (fun _ i _ => 4 - (intOf i).toNat)
  case atStart => exact ⟨0, Nat.zero_le _, rfl, HO.out, Ow.nil _ _⟩
  case round =>
    clear HO HSW
    obtain ⟨k, hk, rfl, ho, hw⟩ := hrel
    have HO := hide ho
    have HW := hide hw
    clear ho hw
    obtain ⟨A, m, c, rfl, hm, hmc, hc⟩ := HW.out.formN
    have HLT : Hid (∀ j, (Value.slice A m c).ownBlock = some j → bi + 1 ≤ j ∧ j < wr.heap.size) := hide HW.out.lt
    have HBW : Hid (bi + 1 ≤ wr.heap.size) := hide (HO.out.blk 1 rfl).lt
    by_cases hlt : k < 4
    · have kc := (HO.out.cells 1 rfl k).trans (intCells_at _ k hlt)
      have hn := nums_lt x HX.out k
      have HS := hide (nums_take x k hlt)
      generalize (nums x).getD k 0 = n at *
      have hz : (n : Int) ≤ 9223372036854775807 := by omega
      go_wp2_with fail
      refine (appendNumber_c (bi + 1) _ _ n (by omega) wr HW.out (by have := encN_len x HX.out k; omega) HBW.out).mono ?_
      rintro e w4 ⟨v4, rfl, ho4, _, hg4, hw4⟩
      have HO4 := hide ho4
      replace HO := hide (HO.out.away (Touch.grown hg4) (fun s hs => .inr (by
        have h1 : (Value.slice A m c).ownBlock = some s := by simpa using hs
        have h2 := HLT.out s h1
        have h3 := HBI.out
        have h4 := HBP.out
        refine ⟨by omega, by simp; omega⟩)))
      clear ho4 hg4 hw4
      go_wp2_with fail
      go_roundw
      case rel => exact ⟨k + 1, by omega, by go_num, HO.out, by rw [HS.out, encN_snoc]; exact HO4.out⟩
      case measure => simp [intOf]; omega
    · obtain rfl : k = 4 := by omega
      have kt := HO.out.cells 0 rfl 4
      go_wp2_with fail
      refine (appendText_c (bi + 1) _ _ _ wr HW.out (by have := encN_len x HX.out 4; omega) (by have := HX.out.text; show x.text.length ≤ _; omega) HBW.out).mono ?_
      rintro e w4 ⟨v4, rfl, ho4, _, hg4, hw4⟩
      have HO4 := hide ho4
      replace HO := hide (HO.out.away (Touch.grown hg4) (fun s hs => .inr (by
        have h1 : (Value.slice A m c).ownBlock = some s := by simpa using hs
        have h2 := HLT.out s h1
        have h3 := HBI.out
        have h4 := HBP.out
        refine ⟨by omega, by simp; omega⟩)))
      clear ho4 hg4 hw4
      obtain ⟨A4, m4, c4, rfl, _, _, _⟩ := HO4.out.formN
      go_wp2_with fail
      have HE : Hid (encN ((nums x).take 4) ++ encT ⟨x.text.toArray⟩ = prtBytes x) := by
        unfold Hid
        rw [prtBytes_nums, encT_list]; rfl
      refine (page_c _ (prtBytes x) (by have := prtBytes_len x HX.out; omega) w4 (by rw [← HE.out]; exact HO4.out.bs)).mono ?_
      rintro e w5 hf
      obtain ⟨v5, rfl, ho5, hb5⟩ := hf.then HO.out.below
      have HO5 := hide ho5
      have HB5 := hide hb5
      clear ho5 hb5 hf
      go_wp2_with fail
      go_ret
      exact ⟨v5, rfl, HO5.out, HB5.out⟩
end Go.Proofs.Ytpadgkkeihhneaa
/- A reader in memory: take, number. -/
namespace Go.Proofs.Ytpadgkkeihhneaa
set_option maxRecDepth 100000
set_option linter.unusedSimpArgs false
set_option linter.unusedVariables false
open Go.ChangeShapes Go.WideShapes Go.ChangeAt Go.RowKit
set_option linter.unusedVariables false

/-- Block b is a reader with the bytes l left, in block k if anywhere, and the error c. -/
def Rd (w : World) (b : Nat) (k : Option Nat) (l : List UInt8) (c : Int) : Prop :=
  ∃ v, Blk w b 98 #[v, .int .i64 c] ∧ Bs w v l ∧ (∀ j, v.ownBlock = some j → k = some j) ∧ k ≠ some b

theorem own_take (A : Option Addr) (n m c c' : Nat) : (Value.slice A n c).ownBlock = (Value.slice A m c').ownBlock := by cases A <;> rfl
theorem own_drop (A : Option Addr) (n m c c' k : Nat) (j : Nat) (h : (Value.slice (if c = k then A else A.map (·.add k)) n c').ownBlock = some j) : (Value.slice A m c).ownBlock = some j := by
  cases A with
  | none => split at h <;> cases h
  | some a =>
    split at h
    · exact h
    · simp only [Option.map_some, Value.ownBlock] at h ⊢
      unfold Addr.add at h
      split at h <;> exact h
theorem Rd.far {w w' : World} {b : Nat} {k : Option Nat} {l : List UInt8} {c : Int} {row : Option Nat} (h : Rd w b k l c) (hg : w.grownBy w' row) (h1 : row ≠ some b) (h2 : ∀ j, k = some j → row ≠ some j) : Rd w' b k l c := by
  obtain ⟨v, hB, hbs, hk, hne⟩ := h
  refine ⟨v, hB.grown hg (Ne.symm h1), hbs.grown hg ?_, hk, hne⟩
  cases hv : v.ownBlock with
  | none => exact .inl rfl
  | some j => right; exact fun e => h2 j (hk j hv) e.symm
theorem Rd.step {w w' : World} {b : Nat} {k : Option Nat} {l : List UInt8} {c : Int} (h : Rd w b k l c) (hg : Below w.heap.size w w') : Rd w' b k l c := h.far (grown_of_below hg none) (by simp) (by simp)
theorem Rd.alloc {w : World} {b : Nat} {k : Option Nat} {l : List UInt8} {c : Int} (h : Rd w b k l c) (o : Obj) : Rd (w.alloc o) b k l c := h.far (grown_alloc (grown_refl w none) o) (by simp) (by simp)
theorem Rd.drew {w : World} {b : Nat} {k : Option Nat} {l : List UInt8} {c : Int} (h : Rd w b k l c) : Rd w.drew b k l c := h
theorem Rd.lt {w : World} {b : Nat} {k : Option Nat} {l : List UInt8} {c : Int} (h : Rd w b k l c) : b < w.heap.size := by obtain ⟨v, hB, _⟩ := h; exact hB.lt

/-- What take does where there are enough bytes. -/
def Taken (w : World) (b : Nat) (k : Option Nat) (l : List UInt8) (c : Int) (n : Nat) (e : Ending) (w' : World) : Prop :=
  ∃ v, e = .returned (.tuple #[v, .bool true]) ∧ Bs w' v (l.take n) ∧ (∀ j, v.ownBlock = some j → k = some j) ∧ Rd w' b k (l.drop n) c ∧ w.grownBy w' (some b)

set_option maxHeartbeats 1000000 in
theorem take_yes (b : Nat) (k : Option Nat) (l : List UInt8) (c : Int) (n : Nat) (w : World) (h : Rd w b k l c) (hn : n ≤ l.length) (hl : l.length ≤ 140737488355328) :
    Calls Try.prog 65 #[.pointer (some ⟨b, 0, none⟩), .int .u64 n] w (Taken w b k l c n) := by
  obtain ⟨v, hB, hbs, hk, hne⟩ := h
  obtain ⟨A, cp, rfl, hc, hm⟩ := hbs.form
  have HT := hide (hbs.take hn)
  have HD := hide (hbs.drop hn)
  have HB := hide hB
  have HK : Hid (∀ j, (Value.slice A n cp).ownBlock = some j → k = some j) := hide fun j hj => hk j (by rw [own_take A _ n _ cp]; exact hj)
  have HO : Hid (∀ j, (Value.slice (if cp = n then A else A.map (·.add n)) (l.length - n) (cp - n)).ownBlock = some j → k = some j) := hide fun j hj => hk j (own_drop A _ _ _ _ n j hj)
  have HF : ∀ (v' : Value) (w' : World), w.grownBy w' (some b) → (∀ j, v'.ownBlock = some j → k = some j) → v'.ownBlock = none ∨ v'.ownBlock ≠ some b := by
    intro v' w' _ hj
    cases hv : v'.ownBlock with
    | none => exact .inl rfl
    | some j => right; intro e; injection e with e; exact hne (by rw [hj j hv, e])
  have HF := hide HF
  have c0 := hB.cell 0
  have f0 := hB.froz 0
  simp only [List.getElem?_toArray, List.getElem?_cons_zero] at c0
  have hx : ¬ ((l.length : Int) < (n : Int)) := by omega
  clear hbs hB hk
  generalize l.length = m at *
  by_cases hcn : cp = n
  · obtain rfl : m = n := by omega
    subst hcn
    rw [if_pos rfl, Nat.sub_self] at HD HO
    go_enter Try.func65, Try.ntmps65
    go_wp2_with fail
    go_ret2
    have hg := grown_set (grown_refl w (some b)) 0 (Value.slice A 0 0)
    exact ⟨_, rfl, HT.out.grown hg (HF.out _ _ hg HK.out), HK.out, ⟨_, HB.out.put 0 _, HD.out.grown hg (HF.out _ _ hg HO.out), HO.out, hne⟩, hg⟩
  · rw [if_neg hcn] at HD HO
    go_enter Try.func65, Try.ntmps65
    go_wp2_with fail
    go_ret2
    have hg := grown_set (grown_refl w (some b)) 0 (Value.slice (A.map (·.add n)) (m - n) (cp - n))
    exact ⟨_, rfl, HT.out.grown hg (HF.out _ _ hg HK.out), HK.out, ⟨_, HB.out.put 0 _, HD.out.grown hg (HF.out _ _ hg HO.out), HO.out, hne⟩, hg⟩

set_option maxHeartbeats 1000000 in
theorem take_no (b : Nat) (k : Option Nat) (l : List UInt8) (c : Int) (n : Nat) (w : World) (h : Rd w b k l c) (hn : l.length < n) (hl : l.length ≤ 140737488355328) :
    Calls Try.prog 65 #[.pointer (some ⟨b, 0, none⟩), .int .u64 n] w fun e w' => e = .returned (.tuple #[.slice none 0 0, .bool false]) ∧ w = w' := by
  obtain ⟨v, hB, hbs, hk, hne⟩ := h
  obtain ⟨A, cp, rfl, hc, hm⟩ := hbs.form
  have c0 := hB.cell 0
  simp only [List.getElem?_toArray, List.getElem?_cons_zero] at c0
  have hx : ((l.length : Int) < (n : Int)) := by omega
  clear hbs hB hk
  generalize l.length = m at *
  go_enter Try.func65, Try.ntmps65
  go_wp2_with fail
  go_ret2
  exact ⟨rfl, rfl⟩
theorem takeZ_yes (b : Nat) (k : Option Nat) (l : List UInt8) (c : Int) (n : Nat) (z : Int) (hz : z = (n : Int)) (w : World) (h : Rd w b k l c) (hn : n ≤ l.length) (hl : l.length ≤ 140737488355328) :
    Calls Try.prog 65 #[.pointer (some ⟨b, 0, none⟩), .int .u64 z] w (Taken w b k l c n) := by
  subst hz; exact take_yes b k l c n w h hn hl
theorem takeZ_no (b : Nat) (k : Option Nat) (l : List UInt8) (c : Int) (n : Nat) (z : Int) (hz : z = (n : Int)) (w : World) (h : Rd w b k l c) (hn : l.length < n) (hl : l.length ≤ 140737488355328) :
    Calls Try.prog 65 #[.pointer (some ⟨b, 0, none⟩), .int .u64 z] w fun e w' => e = .returned (.tuple #[.slice none 0 0, .bool false]) ∧ w = w' := by
  subst hz; exact take_no b k l c n w h hn hl
end Go.Proofs.Ytpadgkkeihhneaa
/- A reader's number. -/
namespace Go.Proofs.Ytpadgkkeihhneaa
set_option maxRecDepth 100000
set_option linter.unusedSimpArgs false
set_option linter.unusedVariables false
open Go.ChangeShapes Go.WideShapes Go.ChangeAt Go.RowKit
set_option linter.unusedVariables false

theorem or_byte (a : Nat) (x : UInt8) (ha : a < 2 ^ 56) : bits BinOp.or IntKind.u64 ((a : Int) * 256) (u8 x) = ((a * 256 + x.toNat : Nat) : Int) := by
  show IntKind.u64.wrap ((BitVec.ofInt 64 ((a : Int) * 256) ||| BitVec.ofInt 64 (u8 x)).toNat : Int) = _
  have hx := x.toNat_lt
  have e1 : (a : Int) * 256 = ((a * 256 : Nat) : Int) := by simp
  rw [e1, show u8 x = ((x.toNat : Nat) : Int) from rfl, BitVec.ofInt_natCast, BitVec.ofInt_natCast, BitVec.toNat_or, BitVec.toNat_ofNat, BitVec.toNat_ofNat, Nat.mod_eq_of_lt (by omega), Nat.mod_eq_of_lt (by omega)]
  have e2 : a * 256 ||| x.toNat = a * 256 + x.toNat := by
    have := Nat.two_pow_add_eq_or_of_lt (i := 8) (b := x.toNat) (by omega) a
    rw [Nat.mul_comm a 256]
    exact this.symm
  rw [e2]
  simp [IntKind.wrap, IntKind.signed, IntKind.bits]
  omega
theorem num_snoc (l : List UInt8) (x : UInt8) : num (l ++ [x]) = num l * 256 + x.toNat := by unfold num; rw [List.foldl_append]; rfl
theorem num_take (l : List UInt8) (j : Nat) (h : j < l.length) : num (l.take (j + 1)) = num (l.take j) * 256 + l[j].toNat := by
  rw [List.take_succ_eq_append_getElem h, num_snoc]
theorem num_take_lt (l : List UInt8) (j : Nat) (h : l.length ≤ 8) (hj : j < l.length) : num (l.take j) < 2 ^ 56 := by
  have h1 := num_lt (l.take j)
  rw [List.length_take, Nat.min_eq_left (by omega)] at h1
  have h2 : (256 : Nat) ^ j ≤ 256 ^ 7 := Nat.pow_le_pow_right (by omega) (by omega)
  omega

theorem ret_num {z : Int} {b : Nat} (h : z = (b : Int)) : Ending.returned (.tuple #[.int .u64 z, .int .i64 0]) = .returned (.tuple #[.int .u64 b, .int .i64 0]) := by rw [h]
/-- What number does. -/
def NumGot (w : World) (b : Nat) (k : Option Nat) (n : Nat) (t : List UInt8) (c : Int) (e : Ending) (w' : World) : Prop :=
  e = .returned (.tuple #[.int .u64 n, .int .i64 0]) ∧ Rd w' b k t c ∧ w.grownBy w' (some b)
def NumBad (w : World) (b : Nat) (k : Option Nat) (m : Nat) (c : Int) (e : Ending) (w' : World) : Prop :=
  e = .returned (.tuple #[.int .u64 0, .int .i64 11]) ∧ (∃ l', Rd w' b k l' c ∧ l'.length ≤ m) ∧ w.grownBy w' (some b)

set_option maxHeartbeats 1000000 in
theorem number_nil (b : Nat) (k : Option Nat) (c : Int) (w : World) (h : Rd w b k [] c) :
    Calls Try.prog 57 #[.pointer (some ⟨b, 0, none⟩)] w (NumBad w b k 0 c) := by
  go_enter Try.func57, Try.ntmps57
  go_wp2_with fail
  refine (take_no b k [] c 1 w h (by simp) (by simp)).mono ?_
  rintro e w1 ⟨rfl, rfl⟩
  go_wp2_with fail
  go_ret2
  exact ⟨rfl, ⟨[], h, Nat.le_refl _⟩, grown_refl _ _⟩

set_option maxHeartbeats 1000000 in
theorem number_high (b : Nat) (k : Option Nat) (x : UInt8) (t : List UInt8) (c : Int) (w : World) (h : Rd w b k (x :: t) c) (hl : (x :: t).length ≤ 140737488355328) (hx : 8 < x.toNat) :
    Calls Try.prog 57 #[.pointer (some ⟨b, 0, none⟩)] w (NumBad w b k (x :: t).length c) := by
  have hu : (8 : Int) < u8 x := by unfold u8; omega
  have H := hide h
  clear h hx
  go_enter Try.func57, Try.ntmps57
  go_wp2_with fail
  refine (take_yes b k (x :: t) c 1 w H.out (by simp) hl).mono ?_
  rintro e w1 ⟨v1, rfl, hb1, hk1, hr1, hg1⟩
  obtain ⟨A1, c1, rfl, h11, h12⟩ := hb1.form
  obtain ⟨b1, off1, y, rfl, hlt1, hy, hc1⟩ := hb1.at_ (k := 0) (by simp)
  obtain rfl : x = y := by simpa using hy
  have HR := hide hr1
  have HG := hide hg1
  clear hr1 hg1 hb1 hk1 hy
  simp only [Nat.add_zero] at hc1
  go_wp2_with fail
  go_ret2
  exact ⟨rfl, ⟨_, HR.out, by simp⟩, HG.out⟩

set_option maxHeartbeats 1000000 in
theorem number_short (b : Nat) (k : Option Nat) (x : UInt8) (t : List UInt8) (c : Int) (w : World) (h : Rd w b k (x :: t) c) (hl : (x :: t).length ≤ 140737488355328) (hx : x.toNat ≤ 8) (ht : t.length < x.toNat) :
    Calls Try.prog 57 #[.pointer (some ⟨b, 0, none⟩)] w (NumBad w b k (x :: t).length c) := by
  have hu : u8 x ≤ 8 := by unfold u8; omega
  have hu0 : 0 ≤ u8 x := (u8_lt x).1
  have H := hide h
  have HT := hide ht
  have HL := hide hl
  clear h hx ht hl
  go_enter Try.func57, Try.ntmps57
  go_wp2_with fail
  refine (take_yes b k (x :: t) c 1 w H.out (by simp) HL.out).mono ?_
  rintro e w1 ⟨v1, rfl, hb1, hk1, hr1, hg1⟩
  obtain ⟨A1, c1, rfl, h11, h12⟩ := hb1.form
  obtain ⟨b1, off1, y, rfl, hlt1, hy, hc1⟩ := hb1.at_ (k := 0) (by simp)
  obtain rfl : x = y := by simpa using hy
  have HR : Hid (Rd w1 b k t c) := hide (by simpa using hr1)
  have HG := hide hg1
  clear hr1 hg1 hb1 hk1 hy
  simp only [Nat.add_zero] at hc1
  go_wp2_with fail
  refine (takeZ_no b k t c x.toNat (u8 x) rfl _ HR.out HT.out (by have := HL.out; simp at this; omega)).mono ?_
  rintro e w2 ⟨rfl, rfl⟩
  go_wp2_with fail
  go_ret2
  exact ⟨rfl, ⟨_, HR.out, by simp⟩, HG.out⟩

set_option maxHeartbeats 1000000 in
theorem number_zero (b : Nat) (k : Option Nat) (x : UInt8) (t : List UInt8) (c : Int) (w : World) (h : Rd w b k (x :: 0 :: t) c) (hl : (x :: 0 :: t).length ≤ 140737488355328) (hx : x.toNat ≤ 8) (h0 : 0 < x.toNat) (ht : x.toNat ≤ t.length + 1) :
    Calls Try.prog 57 #[.pointer (some ⟨b, 0, none⟩)] w (NumBad w b k (x :: 0 :: t).length c) := by
  have hu : u8 x ≤ 8 := by unfold u8; omega
  have hu0 : 0 ≤ u8 x := (u8_lt x).1
  have H := hide h
  have HT := hide ht
  have HL := hide hl
  have HX := hide hx
  have H0 := hide h0
  clear h hx ht hl h0
  go_enter Try.func57, Try.ntmps57
  go_wp2_with fail
  refine (take_yes b k (x :: 0 :: t) c 1 w H.out (by simp) HL.out).mono ?_
  rintro e w1 ⟨v1, rfl, hb1, hk1, hr1, hg1⟩
  obtain ⟨A1, c1, rfl, h11, h12⟩ := hb1.form
  obtain ⟨b1, off1, y, rfl, hlt1, hy, hc1⟩ := hb1.at_ (k := 0) (by simp)
  obtain rfl : x = y := by simpa using hy
  have HR : Hid (Rd w1 b k (0 :: t) c) := hide (by simpa using hr1)
  have HG := hide hg1
  clear hr1 hg1 hb1 hk1 hy
  simp only [Nat.add_zero] at hc1
  go_wp2_with fail
  refine (takeZ_yes b k (0 :: t) c x.toNat (u8 x) rfl _ HR.out HT.out (by have := HL.out; simp at this ⊢; omega)).mono ?_
  rintro e w2 ⟨v2, rfl, hb2, hk2, hr2, hg2⟩
  obtain ⟨m, hm⟩ : ∃ m, x.toNat = m + 1 := ⟨x.toNat - 1, by have := H0.out; omega⟩
  have hlen : ((0 :: t).take x.toNat).length = m + 1 := by rw [List.length_take, List.length_cons, Nat.min_eq_left HT.out, hm]
  obtain ⟨A2, c2, rfl, h21, h22⟩ := hb2.form
  rw [hlen] at hb2 h21
  obtain ⟨b2, off2, y, rfl, hlt2, hy, hc2⟩ := hb2.at_ (k := 0) (by omega)
  obtain rfl : 0 = y := by rw [hm] at hy; simpa using hy
  rw [show u8 0 = 0 from rfl] at hc2
  have HG2 := hide (grown_trans HG.out hg2)
  have HR2 := hide hr2
  rw [hlen]
  clear hr2 hg2 hb2 hk2 hy hm hlen
  simp only [Nat.add_zero] at hc2
  have hq : ((0 : Int) < ((m + 1 : Nat) : Int)) := by omega
  go_wp2_with fail
  go_ret2
  exact ⟨rfl, ⟨_, HR2.out, by simp; omega⟩, HG2.out⟩

set_option maxHeartbeats 2000000 in
theorem number_some (b : Nat) (k : Option Nat) (x : UInt8) (t : List UInt8) (c : Int) (w : World) (h : Rd w b k (x :: t) c) (hl : (x :: t).length ≤ 140737488355328) (hx : x.toNat ≤ 8) (ht : x.toNat ≤ t.length) (h0 : ¬ (0 < x.toNat ∧ t.headD 1 = 0)) :
    Calls Try.prog 57 #[.pointer (some ⟨b, 0, none⟩)] w (NumGot w b k (num (t.take x.toNat)) (t.drop x.toNat) c) := by
  have hu : u8 x ≤ 8 := by unfold u8; omega
  have hu0 : 0 ≤ u8 x := (u8_lt x).1
  have H := hide h
  have HT := hide ht
  have HL := hide hl
  have HX := hide hx
  have H0 := hide h0
  clear h hx ht hl h0
  go_enter Try.func57, Try.ntmps57
  go_wp2_with fail
  refine (take_yes b k (x :: t) c 1 w H.out (by simp) HL.out).mono ?_
  rintro e w1 ⟨v1, rfl, hb1, hk1, hr1, hg1⟩
  obtain ⟨A1, c1, rfl, h11, h12⟩ := hb1.form
  obtain ⟨b1, off1, y, rfl, hlt1, hy, hc1⟩ := hb1.at_ (k := 0) (by simp)
  obtain rfl : x = y := by simpa using hy
  have HR : Hid (Rd w1 b k t c) := hide (by simpa using hr1)
  have HG := hide hg1
  clear hr1 hg1 hb1 hk1 hy
  simp only [Nat.add_zero] at hc1
  go_wp2_with fail
  refine (takeZ_yes b k t c x.toNat (u8 x) rfl _ HR.out HT.out (by have := HL.out; simp at this ⊢; omega)).mono ?_
  rintro e w2 ⟨v2, rfl, hb2, hk2, hr2, hg2⟩
  have HG2 := hide (grown_trans HG.out hg2)
  have HR2 := hide hr2
  have hlen : (t.take x.toNat).length = x.toNat := by rw [List.length_take, Nat.min_eq_left HT.out]
  have hnz : ∀ y, (t.take x.toNat)[0]? = some y → y ≠ 0 := by
    intro y hy e
    have h1 : 0 < x.toNat := by have := (List.getElem?_eq_some_iff.1 hy).1; omega
    apply H0.out
    refine ⟨h1, ?_⟩
    cases t with
    | nil => simp at hy
    | cons z r =>
      rw [List.getElem?_take, if_pos h1] at hy
      simp at hy
      rw [List.headD_cons, hy, e]
  obtain ⟨l2, hl2⟩ : ∃ l2, l2 = t.take x.toNat := ⟨_, rfl⟩
  rw [← hl2] at hb2 hlen hnz ⊢
  have HE := hide hl2
  have hm8 : l2.length ≤ 8 := by rw [hlen]; exact HX.out
  clear hr2 hg2 hl2 hk2
  obtain ⟨A2, c2, rfl, h21, h22⟩ := hb2.form
  have HB2 := hide hb2
  have HNZ := hide hnz
  clear hb2 hlen hnz
  by_cases hz : l2.length = 0
  · have hnil : l2 = [] := List.eq_nil_of_length_eq_zero hz
    subst hnil
    clear hm8 hz h21
    go_wp2_with fail
    go_loop [7, 47] (fun n i => n = .int .u64 0 ∧ i = .int .i64 0) (fun _ _ => 0)
    case atStart => exact ⟨rfl, rfl⟩
    case round =>
      obtain ⟨rfl, rfl⟩ := hrel
      go_wp2_with fail
      go_ret2
      exact ⟨ret_num (by rw [← HE.out]; rfl), HR2.out, HG2.out⟩
  · have h21' := hide h21
    obtain ⟨b2, off2, y, rfl, hlt2, hy, hc2⟩ := HB2.out.at_ (k := 0) (by omega)
    have hy0 : u8 y ≠ 0 := by
      have := HNZ.out y hy
      intro e; apply this; apply UInt8.toNat_inj.1
      unfold u8 at e
      have : y.toNat = 0 := by omega
      simpa using this
    have hyf : (u8 y == 0) = false := by simpa using hy0
    have hq : ((0 : Int) < (l2.length : Int)) := by omega
    obtain ⟨m, hm⟩ : ∃ m, m = l2.length := ⟨_, rfl⟩
    have HM := hide hm
    rw [← hm] at hm8 hz h21 hq ⊢
    clear hm hy hy0
    simp only [Nat.add_zero] at hc2
    go_wp2_with fail
    go_loop [7, 47] (fun n i => ∃ j : Nat, j ≤ m ∧ i = .int .i64 j ∧ n = .int .u64 (num (l2.take j))) (fun _ i => m - (intOf i).toNat)
    case atStart => exact ⟨0, Nat.zero_le _, rfl, rfl⟩
    case round =>
      clear hc2 hyf hq
      obtain ⟨j, hj, rfl, rfl⟩ := hrel
      by_cases hlt : j < m
      · have hjl : j < l2.length := by rw [← HM.out]; exact hlt
        have hs := num_take l2 j hjl
        have hn := num_take_lt l2 j (by rw [← HM.out]; exact hm8) hjl
        obtain ⟨bb, oo, z, e1, _, hzz, hc3⟩ := HB2.out.at_ (k := j) hjl
        injection e1 with e1
        injection e1 with e1 e2
        subst e1 e2
        obtain rfl : l2[j] = z := by rw [List.getElem?_eq_getElem hjl] at hzz; injection hzz
        have HS := hide hs
        clear hs hzz
        obtain ⟨a, ha⟩ : ∃ a, a = num (l2.take j) := ⟨_, rfl⟩
        rw [← ha] at hn HS ⊢
        obtain ⟨x2, hx2⟩ : ∃ x2, x2 = l2[j] := ⟨_, rfl⟩
        rw [← hx2] at hc3 HS
        have HX2 := u8_lt x2
        obtain ⟨q1, q2⟩ := HX2
        clear ha hx2 hjl
        go_wp2_with fail
        go_round
        case rel => exact ⟨j + 1, by omega, by go_num, by rw [HS.out, ← or_byte a x2 hn]⟩
        case measure => simp [intOf]; omega
      · obtain rfl : j = m := by omega
        go_wp2_with fail
        go_ret2
        exact ⟨ret_num (by rw [← HE.out, HM.out, List.take_length]), HR2.out, HG2.out⟩
end Go.Proofs.Ytpadgkkeihhneaa
/- A reader's methods. -/
namespace Go.Proofs.Ytpadgkkeihhneaa
set_option maxRecDepth 100000
set_option linter.unusedSimpArgs false
set_option linter.unusedVariables false
open Go.ChangeShapes Go.WideShapes Go.ChangeAt Go.RowKit
set_option linter.unusedVariables false

theorem Rd.touch {S : List Nat} {w w' : World} {b : Nat} {k : Option Nat} {l : List UInt8} {c : Int} (h : Rd w b k l c) (hg : Touch S w w') (h1 : b ∉ S) (h2 : ∀ j, k = some j → j ∉ S) : Rd w' b k l c := by
  obtain ⟨v, hB, hbs, hk, hne⟩ := h
  exact ⟨v, hB.touch hg h1, hbs.touch hg (fun j hj => h2 j (hk j hj)), hk, hne⟩
/-- The reader's error is set. -/
theorem Rd.fail {w : World} {b : Nat} {k : Option Nat} {l : List UInt8} {c : Int} (h : Rd w b k l c) (e : Int) : Rd ((w.setCell ⟨b, 1, none⟩ (.int .i64 e)).setCell ⟨b, 0, none⟩ (.slice none 0 0)) b k [] e := by
  obtain ⟨v, hB, hbs, hk, hne⟩ := h
  refine ⟨.slice none 0 0, ?_, Bs.nil _, (fun j hj => by cases hj), hne⟩
  exact (hB.put 1 (.int .i64 e)).put 0 _
theorem Rd.cells {w : World} {b : Nat} {k : Option Nat} {l : List UInt8} {c : Int} (h : Rd w b k l c) : ∃ v, w.cell? ⟨b, 0, none⟩ = some v ∧ w.cell? ⟨b, 1, none⟩ = some (.int .i64 c) ∧ w.frozen? ⟨b, 0, none⟩ = false ∧ w.frozen? ⟨b, 1, none⟩ = false ∧ Bs w v l := by
  obtain ⟨v, hB, hbs, hk, hne⟩ := h
  exact ⟨v, hB.cell 0, hB.cell 1, hB.froz 0, hB.froz 1, hbs⟩

/-- A function that read is handed has found a number. -/
def FnGot (S : List Nat) (w : World) (b : Nat) (k : Option Nat) (n : Nat) (t : List UInt8) (E : World → Prop) (e : Ending) (w' : World) : Prop :=
  e = .returned (.tuple #[.int .u64 n, .int .i64 0]) ∧ Rd w' b k t 0 ∧ Touch S w w' ∧ E w'
def FnBad (S : List Nat) (w : World) (b : Nat) (k : Option Nat) (code : Int) (E : World → Prop) (e : Ending) (w' : World) : Prop :=
  e = .returned (.tuple #[.int .u64 0, .int .i64 code]) ∧ (∃ l', Rd w' b k l' 0) ∧ Touch S w w' ∧ E w'
/-- What read does then. -/
def ReadGot (S : List Nat) (w : World) (b : Nat) (k : Option Nat) (n : Nat) (t : List UInt8) (E : World → Prop) (e : Ending) (w' : World) : Prop :=
  e = .returned (.int .u64 n) ∧ Rd w' b k t 0 ∧ Touch S w w' ∧ E w'
def ReadBad (S : List Nat) (w : World) (b : Nat) (k : Option Nat) (code : Int) (E : World → Prop) (e : Ending) (w' : World) : Prop :=
  e = .returned (.int .u64 0) ∧ Rd w' b k [] code ∧ Touch S w w' ∧ ∃ w1, E w1 ∧ Touch [b] w1 w'

set_option maxHeartbeats 1000000 in
theorem read_stopped (b : Nat) (k : Option Nat) (l : List UInt8) (c : Int) (fv : Value) (w : World) (h : Rd w b k l c) (hc : c ≠ 0) :
    Calls Try.prog 56 #[.pointer (some ⟨b, 0, none⟩), fv] w fun e w' => e = .returned (.int .u64 0) ∧ w = w' := by
  obtain ⟨v, c0, c1, f0, f1, _⟩ := h.cells
  have hcb : (c == 0) = false := by simpa using hc
  clear h hc
  go_enter Try.func56, Try.ntmps56
  go_wp2_with fail
  go_ret
  exact ⟨rfl, rfl⟩

set_option maxHeartbeats 1000000 in
theorem readNumber_got (S : List Nat) (b : Nat) (k : Option Nat) (l : List UInt8) (n : Nat) (t : List UInt8) (E : World → Prop) (w : World) (h : Rd w b k l 0)
    (hf : Calls Try.prog 57 #[.pointer (some ⟨b, 0, none⟩)] w (FnGot S w b k n t E)) :
    Calls Try.prog 56 #[.pointer (some ⟨b, 0, none⟩), .func (.func 57) #[.pointer (some ⟨b, 0, none⟩)] #[]] w (ReadGot S w b k n t E) := by
  obtain ⟨v, c0, c1, f0, f1, _⟩ := h.cells
  have HF := hide hf
  clear h hf
  go_enter Try.func56, Try.ntmps56
  go_wp2_with fail
  refine HF.out.mono ?_
  rintro e w1 ⟨rfl, h1, h2, h3⟩
  go_wp2_with fail
  go_ret
  exact ⟨rfl, h1, h2, h3⟩

set_option maxHeartbeats 1000000 in
theorem readNumber_bad (S : List Nat) (b : Nat) (k : Option Nat) (l : List UInt8) (code : Int) (hcode : code ≠ 0) (E : World → Prop) (w : World) (h : Rd w b k l 0) (hb : b ∈ S)
    (hf : Calls Try.prog 57 #[.pointer (some ⟨b, 0, none⟩)] w (FnBad S w b k code E)) :
    Calls Try.prog 56 #[.pointer (some ⟨b, 0, none⟩), .func (.func 57) #[.pointer (some ⟨b, 0, none⟩)] #[]] w (ReadBad S w b k code E) := by
  obtain ⟨v, c0, c1, f0, f1, _⟩ := h.cells
  have HF := hide hf
  have hcb : (code == 0) = false := by simpa using hcode
  clear h hf hcode
  go_enter Try.func56, Try.ntmps56
  go_wp2_with fail
  refine HF.out.mono ?_
  rintro e w1 ⟨rfl, ⟨l', h1⟩, h2, h3⟩
  clear c0 c1 f0 f1
  obtain ⟨v1, c0, c1, f0, f1, _⟩ := h1.cells
  have H1 := hide h1
  have H2 := hide h2
  clear h1 h2
  go_wp2_with fail
  go_ret
  exact ⟨rfl, H1.out.fail code, (H2.out.set (.inl hb) 1 _).set (.inl hb) 0 _, w1, h3, ((Touch.refl [b] w1).set (by simp) 1 _).set (by simp) 0 _⟩

set_option maxHeartbeats 1000000 in
theorem readText_got (q s : Nat) (S : List Nat) (b : Nat) (k : Option Nat) (l : List UInt8) (n : Nat) (t : List UInt8) (E : World → Prop) (w : World) (h : Rd w b k l 0)
    (hf : Calls Try.prog 64 #[.pointer (some ⟨q, 0, none⟩), .pointer (some ⟨s, 0, none⟩)] w (FnGot S w b k n t E)) :
    Calls Try.prog 56 #[.pointer (some ⟨b, 0, none⟩), .func (.func 64) #[] #[.pointer (some ⟨q, 0, none⟩), .pointer (some ⟨s, 0, none⟩)]] w (ReadGot S w b k n t E) := by
  obtain ⟨v, c0, c1, f0, f1, _⟩ := h.cells
  have HF := hide hf
  clear h hf
  go_enter Try.func56, Try.ntmps56
  go_wp2_with fail
  refine HF.out.mono ?_
  rintro e w1 ⟨rfl, h1, h2, h3⟩
  go_wp2_with fail
  go_ret
  exact ⟨rfl, h1, h2, h3⟩

set_option maxHeartbeats 1000000 in
theorem readText_bad (q s : Nat) (S : List Nat) (b : Nat) (k : Option Nat) (l : List UInt8) (code : Int) (hcode : code ≠ 0) (E : World → Prop) (w : World) (h : Rd w b k l 0) (hb : b ∈ S)
    (hf : Calls Try.prog 64 #[.pointer (some ⟨q, 0, none⟩), .pointer (some ⟨s, 0, none⟩)] w (FnBad S w b k code E)) :
    Calls Try.prog 56 #[.pointer (some ⟨b, 0, none⟩), .func (.func 64) #[] #[.pointer (some ⟨q, 0, none⟩), .pointer (some ⟨s, 0, none⟩)]] w (ReadBad S w b k code E) := by
  obtain ⟨v, c0, c1, f0, f1, _⟩ := h.cells
  have HF := hide hf
  have hcb : (code == 0) = false := by simpa using hcode
  clear h hf hcode
  go_enter Try.func56, Try.ntmps56
  go_wp2_with fail
  refine HF.out.mono ?_
  rintro e w1 ⟨rfl, ⟨l', h1⟩, h2, h3⟩
  clear c0 c1 f0 f1
  obtain ⟨v1, c0, c1, f0, f1, _⟩ := h1.cells
  have H1 := hide h1
  have H2 := hide h2
  clear h1 h2
  go_wp2_with fail
  go_ret
  exact ⟨rfl, H1.out.fail code, (H2.out.set (.inl hb) 1 _).set (.inl hb) 0 _, w1, h3, ((Touch.refl [b] w1).set (by simp) 1 _).set (by simp) 0 _⟩

end Go.Proofs.Ytpadgkkeihhneaa
