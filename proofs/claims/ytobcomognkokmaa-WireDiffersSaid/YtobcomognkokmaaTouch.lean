/- What a call may turn: a list of blocks. -/
import Derived.Test.YtobcomognkokmaaBytes
namespace Go.Proofs.Ytobcomognkokmaa
open Go.ChangeShapes Go.WideShapes Go.ChangeAt Go.RowKit
set_option linter.unusedVariables false

/-- Of what lay there, at most the blocks of S have turned. -/
structure Touch (S : List Nat) (w w' : World) : Prop where
  os : w'.os = w.os
  tape : w'.tape = w.tape
  output : w'.output = w.output
  size : w.heap.size ≤ w'.heap.size
  block : ∀ k, k < w.heap.size → k ∉ S → w'.heap[k]? = w.heap[k]?

theorem Touch.refl (S : List Nat) (w : World) : Touch S w w := ⟨rfl, rfl, rfl, Nat.le_refl _, fun _ _ _ => rfl⟩
theorem Touch.next {S T : List Nat} {w w1 w2 : World} (h : Touch S w w1) (k : Touch T w1 w2) (hT : ∀ t ∈ T, t ∈ S ∨ w.heap.size ≤ t) : Touch S w w2 := by
  refine ⟨k.os.trans h.os, k.tape.trans h.tape, k.output.trans h.output, Nat.le_trans h.size k.size, fun i hi hne => ?_⟩
  rw [k.block i (Nat.lt_of_lt_of_le hi h.size) ?_, h.block i hi hne]
  intro hm
  rcases hT i hm with h1 | h1
  · exact hne h1
  · omega
theorem Touch.trans {S : List Nat} {w w1 w2 : World} (h : Touch S w w1) (k : Touch S w1 w2) : Touch S w w2 := h.next k fun _ ht => .inl ht
theorem Touch.mono {S T : List Nat} {w w' : World} (h : Touch S w w') (hs : ∀ s ∈ S, s ∈ T ∨ w.heap.size ≤ s) : Touch T w w' :=
  (Touch.refl T w).next h hs
theorem Touch.grown {w w' : World} {row : Option Nat} (h : w.grownBy w' row) : Touch row.toList w w' := ⟨h.os, h.tape, h.output, h.size, fun k hk hne => h.block k hk (by intro e; rw [← e] at hne; simp at hne)⟩
theorem Touch.one {w w' : World} {g : Nat} (h : w.grownBy w' (some g)) : Touch [g] w w' := Touch.grown h
theorem Touch.of_one {w w' : World} {g : Nat} (h : Touch [g] w w') : w.grownBy w' (some g) := ⟨h.os, h.tape, h.output, h.size, fun k hk hne => h.block k hk (by intro e; simp at e; exact hne (by rw [e]))⟩
theorem Touch.below {w w' : World} (h : Below w.heap.size w w') (S : List Nat) : Touch S w w' := ⟨h.os, h.tape, h.output, h.size, fun k hk _ => h.block k hk⟩
theorem Touch.to_below {S : List Nat} {w w' : World} {B : Nat} (h : Touch S w w') (hS : ∀ s ∈ S, B ≤ s) (hB : B ≤ w.heap.size) : Below B w w' :=
  ⟨h.os, h.tape, h.output, h.size, fun k hk => h.block k (Nat.lt_of_lt_of_le hk hB) fun hm => by have := hS k hm; omega⟩
theorem Below.touch {S : List Nat} {a w w' : World} {B : Nat} (hb : Below B a w) (h : Touch S w w') (hS : ∀ s ∈ S, B ≤ s) (hB : B ≤ w.heap.size) : Below B a w' := hb.trans (h.to_below hS hB)
theorem Touch.set {S : List Nat} {a w : World} {g : Nat} (h : Touch S a w) (hg : g ∈ S ∨ a.heap.size ≤ g) (o : Nat) (v : Value) : Touch S a (w.setCell ⟨g, o, none⟩ v) :=
  h.next (Touch.one (grown_set (grown_refl w (some g)) o v)) (by intro t ht; simp at ht; subst ht; exact hg)
theorem Touch.alloc {S : List Nat} {a w : World} (h : Touch S a w) (o : Obj) : Touch S a (w.alloc o) :=
  h.next (T := []) (Touch.grown (grown_alloc (grown_refl w none) o)) (by simp)
theorem Touch.drew {S : List Nat} {a w : World} (h : Touch S a w) : Touch S a w.drew := ⟨h.os, h.tape, h.output, h.size, h.block⟩
theorem Touch.drewN {S : List Nat} {a w : World} (h : Touch S a w) (n : Nat) : Touch S a (w.drewN n) := ⟨h.os, h.tape, h.output, h.size, h.block⟩
theorem Touch.step {S : List Nat} {a w w' : World} (h : Touch S a w) (hb : Below w.heap.size w w') : Touch S a w' := h.next (Touch.below hb []) (by simp)

theorem Blk.touch {S : List Nat} {w w' : World} {g : Nat} {t : TypeId} {cs : Array Value} (h : Blk w g t cs) (k : Touch S w w') (hg : g ∉ S) : Blk w' g t cs := (k.block g h.lt hg).trans h
theorem Bs.touch {S : List Nat} {w w' : World} {v : Value} {l : List UInt8} (h : Bs w v l) (k : Touch S w w') (hv : ∀ j, v.ownBlock = some j → j ∉ S) : Bs w' v l :=
  h.keep k.size fun p hp e => World.cell?_of_block (k.block p.block hp (hv _ e))
theorem Bs.empty {w w' : World} {v : Value} (h : Bs w v []) : Bs w' v [] := by
  obtain ⟨A, c, hv, h1, h2, _⟩ := h
  exact ⟨A, c, hv, h1, h2, fun h => absurd h (by simp)⟩
theorem Bs.touchN {S : List Nat} {w w' : World} {v : Value} {l : List UInt8} (h : Bs w v l) (k : Touch S w w') (hv : l ≠ [] → ∀ j, v.ownBlock = some j → j ∉ S) : Bs w' v l := by
  by_cases hl : l = []
  · subst hl; exact h.empty
  · exact h.touch k (hv hl)
theorem Ow.touch {S : List Nat} {w w' : World} {base : Nat} {v : Value} {l : List UInt8} (h : Ow w base v l) (k : Touch S w w') (hv : ∀ j, v.ownBlock = some j → j ∉ S) : Ow w' base v l := by
  refine ⟨h.1, ?_⟩
  rcases h.2 with hn | ⟨g, cap, cur, rfl, hb, hgg, rest⟩
  · exact .inl hn
  · exact .inr ⟨g, cap, cur, rfl, hb, (k.block g (h.lt g rfl).2 (hv g rfl)).trans hgg, rest⟩
/-- A slice's shape, its length behind a letter. -/
theorem Bs.formN {w : World} {v : Value} {l : List UInt8} (h : Bs w v l) : ∃ A m c, v = .slice A m c ∧ Hid (m = l.length) ∧ m ≤ c ∧ c ≤ 9223372036854775807 := by
  obtain ⟨A, c, hv, h1, h2⟩ := h.form
  exact ⟨A, l.length, c, hv, rfl, h1, h2⟩
theorem Ow.formN {w : World} {base : Nat} {v : Value} {l : List UInt8} (h : Ow w base v l) : ∃ A m c, v = .slice A m c ∧ Hid (m = l.length) ∧ m ≤ c ∧ c ≤ 9223372036854775807 := h.bs.formN
theorem World.size_grow {S : List Nat} {w w' : World} (k : Touch S w w') : w.heap.size ≤ w'.heap.size := k.size
end Go.Proofs.Ytobcomognkokmaa
