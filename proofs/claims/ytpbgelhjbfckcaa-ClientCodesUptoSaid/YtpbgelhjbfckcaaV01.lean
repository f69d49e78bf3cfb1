/- Shared ground of this seat's proofs: from a walk to the law's statement; facts on blocks of memory; slices of integers that came in. -/
import Derived.Test.YtpbgelhjbfckcaaRows
import Derived.WalkKit
import Derived.ProofKit
import Derived.OpenShut
import Derived.Handy
import Derived.Deep.SlicePairs
import Derived.Deep.Draws
import Derived.Maps.AppendAt
import Derived.Deep.AppendLies
import Derived.Laws.BytesArg
import Derived.Deep.MidRow
import Derived.Laws.MakeOwn
import Derived.Deep.Upon
import Derived.Lib.EndianMore
import Derived.Deep.RegionHeld3
import Derived.Great.Walk
import Derived.Great.BuildSlice
namespace Go.Proofs.Ytpbgelhjbfckcaa
set_option linter.unusedVariables false
section
open Go.ChangeShapes Go.WideShapes Go.ChangeAt Go.RowKit
/-! ### From a walk to the statement -/
theorem own_knob : ownKnob Try.prog.godebug = none := by kernel_rfl
theorem laid_out : laidOutB Try.prog = true := by kernel_rfl
theorem args_again {H : Type} {enc : TypeId × Value → H} {P : Program} {W W' : World} (hl : laidOutB P = true) (hb : Below W.heap.size W W') :
 ∀ {ts : List TypeId} {vs : List Value} {ds : List (DataW H)} {ps : List MemPlace}, (∀ t ∈ ts, P.readableRec t = true ∧ t < P.types.size) → DataW.TrodAll enc P W 0 (fun _ => true) true ts vs ds ps →
  (∀ x ∈ ps, x.block < W.heap.size) → DataW.TrodAll enc P W' 0 (fun b => decide (b < W.heap.size)) true ts vs ds ps
 | [], [], [], _, _, h, _ => h
 | t :: ts, v :: vs, d :: ds, ps, hr, h, hlt => by
  obtain ⟨p, q, h1, h2, rfl⟩ := h
  exact ⟨p, q, Below.trod hl (hr t (by simp)).1 (hr t (by simp)).2 h1 hb (fun x hx => hlt x (by simp [hx])),
   args_again hl hb (fun t' ht' => hr t' (by simp [ht'])) h2 (fun x hx => hlt x (by simp [hx])), rfl⟩
 | [], _ :: _, _, _, _, h, _ => by cases h
 | [], [], _ :: _, _, _, h, _ => by cases h
 | _ :: _, [], _, _, _, h, _ => by cases h
 | _ :: _, _ :: _, [], _, _, h, _ => by cases h
theorem args_length {H : Type} {enc : TypeId × Value → H} {P : Program} {W : World} : ∀ {ts : List TypeId} {vs : List Value} {ds : List (DataW H)} {ps : List MemPlace}, DataW.TrodAll enc P W 0 (fun _ => true) true ts vs ds ps → ds.length = ts.length
 | [], vs, ds, ps, h => by obtain ⟨_, rfl, _⟩ := trodAll_nil h; rfl
 | t :: ts, vs, ds, ps, h => by
  obtain ⟨v, vs', d, ds', p', q', _, rfl, _, _, hA'⟩ := trodAll_cons h
  simp [args_length hA']
/-- A call that answers true and leaves what was there as it was meets a law's statement. -/
theorem law_contract {H : Type} {enc : TypeId × Value → H} {P : Program} {fn : Func} {s : ChangeSpec} {tb : TypeId} {f : FuncId} {W : World} {args : Array Value} {ds gs : List (DataW H)} {before : List MemPlace}
 (hl : laidOutB P = true) (hpar : ∀ t ∈ fn.params.toList, P.readableRec t = true ∧ t < P.types.size) (hres : fn.resultTypes = #[tb]) (htb : P.underlying tb = some .bool) (hv : s.vars = [])
 (hspec : ∀ xs : List (DataW H), xs.length = fn.params.toList.length → s.fn H (xs ++ []) = { results := [.lit (.bool true)], args := xs })
 (hW : DataW.Whole enc P fn.params.toList s.vars false W args.toList ds gs before)
 (hwalk : Calls P f args W fun e W' => e = .returned (.bool true) ∧ Below W.heap.size W W') :
 Calls P f args W fun e W' => ∃ v, e = .returned v ∧ s.post enc P fn false true false false W args v W' := by
 refine hwalk.mono fun e W' ⟨he, hb⟩ => ⟨.bool true, he, ?_⟩
 have hlt := hW.lt
 have hW' := hW
 obtain ⟨p, q, hA, hV, rfl, hfz, hnd⟩ := hW
 rw [hv] at hV
 obtain ⟨rfl, rfl⟩ := trodVars_none hV
 have hlen := args_length hA;have hs := hspec ds hlen
 refine ⟨ds, [], _, [], p, [], hW', ?_, ?_, ?_, ?_, fun h => by cases h⟩
 ·rw [hs, hres]
  exact ⟨[], [], shut_bool htb true, rfl, rfl⟩
 ·rw [hs]
  exact args_again hl hb hpar hA (fun x hx => hlt x (by simpa using hx))
 ·rw [hs, hv]
  rfl
 ·exact World.keptBut_mono (fun p hp => ⟨hp, by simpa using hp⟩) (hb.frame (· ∈ _))
/-! ### Facts kept from the walk -/
theorem hide {p : Prop} (h : p) : Hid p := h
/-! ### Blocks -/
theorem grown_refl (w : World) (row : Option Nat) : w.grownBy w row := ⟨rfl, rfl, rfl, Nat.le_refl _, fun _ _ _ => rfl⟩
theorem grown_set {a w : World} {g : Nat} (h : a.grownBy w (some g)) (o : Nat) (v : Value) : a.grownBy (w.setCell ⟨g, o, none⟩ v) (some g) :=
 ⟨h.os, h.tape, h.output, by simpa [World.setCell] using h.size, fun k hk hne => (Below.heap_setCell _ _ _ _ (fun e => hne (by rw [e]))).trans (h.block k hk hne)⟩
theorem grown_alloc {a w : World} {row : Option Nat} (h : a.grownBy w row) (o : Obj) : a.grownBy (w.alloc o) row :=
 ⟨h.os, h.tape, h.output, Nat.le_trans h.size (by simp), fun k hk hne => (Below.heap_alloc _ _ _ (Nat.lt_of_lt_of_le hk h.size)).trans (h.block k hk hne)⟩
theorem grown_trans {a b c : World} {row : Option Nat} (h : a.grownBy b row) (k : b.grownBy c row) : a.grownBy c row :=
 ⟨k.os.trans h.os, k.tape.trans h.tape, k.output.trans h.output, Nat.le_trans h.size k.size, fun i hi hne => (k.block i (Nat.lt_of_lt_of_le hi h.size) hne).trans (h.block i hi hne)⟩
theorem grown_of_below {a w : World} (h : Below a.heap.size a w) (row : Option Nat) : a.grownBy w row := ⟨h.os, h.tape, h.output, h.size, fun i hi _ => h.block i hi⟩
theorem below_grown {B : Nat} {a b c : World} {g : Nat} (h : Below B a b) (k : b.grownBy c (some g)) (hB : B ≤ b.heap.size) (hg : B ≤ g) : Below B a c := h.grown k hB (by rintro _ ⟨⟩; exact hg)
/-- Block g is just the cells cs of element type t; none is frozen. -/
def Blk (w : World) (g : Nat) (t : TypeId) (cs : Array Value) : Prop := w.heap[g]? = some (.cells cs t (0, 0))
section
variable {w w' : World} {g : Nat} {t : TypeId} {cs : Array Value}
theorem Blk.lt (h : Blk w g t cs) : g < w.heap.size := by
 rcases Nat.lt_or_ge g w.heap.size with hlt | hge
 ·exact hlt
 ·unfold Blk at h; rw [Array.getElem?_eq_none hge] at h; cases h
theorem Blk.cell (h : Blk w g t cs) (i : Nat) : w.cell? ⟨g, i, none⟩ = cs[i]? := by unfold Blk at h; simp [World.cell?, h]
theorem Blk.froz (h : Blk w g t cs) (i : Nat) : w.frozen? ⟨g, i, none⟩ = false := by unfold Blk at h; simp [World.frozen?, h]
theorem Blk.new (w : World) (t : TypeId) (cs : Array Value) : Blk (w.alloc (.cells cs t)) w.heap.size t cs := heap_alloc_new w _
theorem Blk.alloc (h : Blk w g t cs) (o : Obj) : Blk (w.alloc o) g t cs := (Below.heap_alloc w o g h.lt).trans h
theorem Blk.drew (h : Blk w g t cs) : Blk w.drew g t cs := h
theorem Blk.put (h : Blk w g t cs) (i : Nat) (u : Value) : Blk (w.setCell ⟨g, i, none⟩ u) g t (cs.setIfInBounds i u) := by
 unfold Blk at h ⊢
 simp [World.setCell, Array.getElem?_modify, h]
theorem Blk.far (h : Blk w g t cs) {p : Addr} (hp : g ≠ p.block) (u : Value) : Blk (w.setCell p u) g t cs := (Below.heap_setCell w p u g hp).trans h
theorem Blk.below {B : Nat} (h : Blk w g t cs) (hb : Below B w w') (hg : g < B) : Blk w' g t cs := (hb.block g hg).trans h
theorem Blk.step (h : Blk w g t cs) (hb : Below w.heap.size w w') : Blk w' g t cs := (hb.block g h.lt).trans h
theorem Blk.grown {row : Option Nat} (h : Blk w g t cs) (hb : w.grownBy w' row) (hg : some g ≠ row) : Blk w' g t cs := (hb.block g h.lt hg).trans h
end
/-! ### A slice of integers that came in -/
/-- The slice v holds the integers l of kind k, in blocks that are there. -/
def IntsIn (w : World) (v : Value) (k : IntKind) (l : List Int) : Prop :=
 ∃ A c, v = .slice A l.length c ∧ l.length ≤ c ∧ c ≤ maxLen ∧ (∀ n ∈ l, (Lit.int k n).wf = true) ∧
  (0 < l.length → ∃ b off, A = some ⟨b, off, none⟩ ∧ b < w.heap.size ∧ ∀ j (h : j < l.length), w.cell? ⟨b, off + j, none⟩ = some (.int k l[j]))
theorem cell_plain {w : World} {a : Addr} {v : Value} (h : w.cell? a = some v) : a = ⟨a.block, a.off, none⟩ ∧ a.block < w.heap.size := by
 refine ⟨?_, World.block_lt_of_cell? w a h⟩
 obtain ⟨b, o, s⟩ := a
 cases s with
 | none => rfl
 | some x =>
  simp only [World.cell?] at h
  split at h <;> simp at h
theorem add_plain (b o i : Nat) : (⟨b, o, none⟩ : Addr).add i = ⟨b, o + i, none⟩ := by unfold Addr.add; split <;> simp_all
theorem IntsIn.len {w : World} {v : Value} {k : IntKind} {l : List Int} (h : IntsIn w v k l) : l.length ≤ maxLen := by
 obtain ⟨_, _, _, h1, h2, _⟩ := h
 omega
end
section
open Go.ChangeShapes Go.WideShapes Go.ChangeAt Go.RowKit
/-- A byte as a number, kept whole by the walk. -/
def u8 (c : UInt8) : Int := (c.toNat : Int)
theorem u8_lt (c : UInt8) : 0 ≤ u8 c ∧ u8 c ≤ 255 := by unfold u8; have := c.toNat_lt; omega
/-- A byte as a value. -/
def bv (c : UInt8) : Value := .int .u8 (u8 c)
theorem bv_one (c : UInt8) : (bv c).oneCell' = true := rfl
/-- The slice v holds the bytes l. -/
def Bs (w : World) (v : Value) (l : List UInt8) : Prop :=
 ∃ A c, v = .slice A l.length c ∧ l.length ≤ c ∧ c ≤ maxLen ∧
  (0 < l.length → ∃ b off, A = some ⟨b, off, none⟩ ∧ b < w.heap.size ∧ ∀ j (h : j < l.length), w.cell? ⟨b, off + j, none⟩ = some (bv l[j]))
/-- The slice v is nil or the call's own (blocks from base on), its array begins with the bytes l. -/
def Ow (w : World) (base : Nat) (v : Value) (l : List UInt8) : Prop := w.ownsRow base 5 1 v l.length (l.map bv)
theorem Bs.nil (w : World) : Bs w (.slice none 0 0) [] := ⟨none, 0, rfl, Nat.le_refl _, by unfold maxLen; omega, fun h => by simp at h⟩
theorem Bs.form {w : World} {v : Value} {l : List UInt8} (h : Bs w v l) : ∃ A c, v = .slice A l.length c ∧ l.length ≤ c ∧ c ≤ 9223372036854775807 := by
 obtain ⟨A, c, hv, h1, h2, _⟩ := h
 exact ⟨A, c, hv, h1, by unfold maxLen at h2; omega⟩
theorem Bs.keep {w w' : World} {v : Value} {l : List UInt8} (h : Bs w v l) (hs : w.heap.size ≤ w'.heap.size) (hc : ∀ p : Addr, p.block < w.heap.size → v.ownBlock = some p.block → w'.cell? p = w.cell? p) : Bs w' v l := by
 obtain ⟨A, c, rfl, h1, h2, h3⟩ := h
 refine ⟨A, c, rfl, h1, h2, fun h0 => ?_⟩
 obtain ⟨b, off, rfl, hb, hcell⟩ := h3 h0
 exact ⟨b, off, rfl, Nat.lt_of_lt_of_le hb hs, fun j hj => (hc ⟨b, off + j, none⟩ hb rfl).trans (hcell j hj)⟩
theorem Bs.step {w w' : World} {v : Value} {l : List UInt8} (h : Bs w v l) (hb : Below w.heap.size w w') : Bs w' v l := h.keep hb.size fun p hp _ => hb.cell hp
theorem Bs.drew {w : World} {v : Value} {l : List UInt8} (h : Bs w v l) : Bs w.drew v l := h
theorem Bs.alloc {w : World} {v : Value} {l : List UInt8} (h : Bs w v l) (o : Obj) : Bs (w.alloc o) v l := h.step ((Below.refl _ _).alloc (Nat.le_refl _) o)
theorem Bs.grown {w w' : World} {v : Value} {l : List UInt8} {row : Option Nat} (h : Bs w v l) (hg : w.grownBy w' row) (hne : v.ownBlock = none ∨ v.ownBlock ≠ row) : Bs w' v l := by
 refine h.keep hg.size fun p hp hv => World.cell?_of_block (hg.block p.block hp ?_)
 rcases hne with hne | hne
 ·rw [hne] at hv; cases hv
 ·rw [hv] at hne; exact hne
theorem Bs.at_ {w : World} {A : Option Addr} {n c : Nat} {l : List UInt8} (h : Bs w (.slice A n c) l) {k : Nat} (hk : k < n) :
 ∃ b off x, A = some ⟨b, off, none⟩ ∧ b < w.heap.size ∧ l[k]? = some x ∧ w.cell? ⟨b, off + k, none⟩ = some (.int .u8 (u8 x)) := by
 obtain ⟨A', c', hv, _, _, hc⟩ := h
 injection hv with e1 e2 e3
 subst e1 e2 e3
 obtain ⟨b, off, rfl, hb, hcell⟩ := hc (by omega)
 exact ⟨b, off, l[k], rfl, hb, List.getElem?_eq_getElem hk, hcell k hk⟩
/-- v[:k] -/
theorem Bs.take {w : World} {A : Option Addr} {n c : Nat} {l : List UInt8} (h : Bs w (.slice A n c) l) {k : Nat} (hk : k ≤ n) : Bs w (.slice A k c) (l.take k) := by
 obtain ⟨A', c', hv, h1, h2, hc⟩ := h
 injection hv with e1 e2 e3
 subst e1 e2 e3
 have hl : (l.take k).length = k := by rw [List.length_take]; omega
 refine ⟨A, c, by rw [hl], by omega, h2, fun h0 => ?_⟩
 obtain ⟨b, off, rfl, hb, hcell⟩ := hc (by omega)
 exact ⟨b, off, rfl, hb, fun j hj => by rw [hcell j (by omega)]; simp [List.getElem_take]⟩
/-- v[k:] -/
theorem Bs.drop {w : World} {A : Option Addr} {n c : Nat} {l : List UInt8} (h : Bs w (.slice A n c) l) {k : Nat} (hk : k ≤ n) : Bs w (.slice (if c = k then A else A.map (·.add k)) (n - k) (c - k)) (l.drop k) := by
 obtain ⟨A', c', hv, h1, h2, hc⟩ := h
 injection hv with e1 e2 e3
 subst e1 e2 e3
 have hl : (l.drop k).length = l.length - k := by rw [List.length_drop]
 refine ⟨_, c - k, by rw [hl], by omega, by omega, fun h0 => ?_⟩
 obtain ⟨b, off, rfl, hb, hcell⟩ := hc (by omega)
 rw [if_neg (by omega)]
 refine ⟨b, off + k, by simp [add_plain], hb, fun j hj => ?_⟩
 rw [Nat.add_assoc, hcell (k + j) (by omega)]
 simp
theorem Ow.nil (w : World) (base : Nat) : Ow w base (.slice none 0 0) [] := World.ownsRow_nil w base 5 1
theorem Ow.bs {w : World} {base : Nat} {v : Value} {l : List UInt8} (h : Ow w base v l) : Bs w v l := by
 obtain ⟨hl, ⟨rfl, h0⟩ | ⟨g, cap, cur, rfl, hg, hh, hn, hm, hs, ht⟩⟩ := h
 ·have : l = [] := List.eq_nil_of_length_eq_zero h0
  subst this
  exact Bs.nil w
 ·refine ⟨_, cap, rfl, hn, hm, fun h0 => ⟨g, 0, rfl, (Array.getElem?_eq_some_iff.1 hh).1, fun j hj => ?_⟩⟩
  rw [Nat.zero_add, cell_of_row w g j cur _ _ hh]
  have h1 : (cur.toList.take (l.length * 1))[j]? = (l.map bv)[j]? := by rw [ht]
  rw [List.getElem?_take, if_pos (by omega)] at h1
  rw [Array.getElem?_toList] at h1
  rw [h1]
  simp [hj]
theorem Ow.form {w : World} {base : Nat} {v : Value} {l : List UInt8} (h : Ow w base v l) : ∃ A c, v = .slice A l.length c ∧ l.length ≤ c ∧ c ≤ 9223372036854775807 := h.bs.form
theorem Ow.lt {w : World} {base : Nat} {v : Value} {l : List UInt8} (h : Ow w base v l) : ∀ k, v.ownBlock = some k → base ≤ k ∧ k < w.heap.size := World.ownsRow.lt h
theorem Ow.mono {w : World} {base base' : Nat} {v : Value} {l : List UInt8} (h : Ow w base v l) (hb : base' ≤ base) : Ow w base' v l := by
 obtain ⟨hl, h1 | ⟨g, cap, cur, hv, hg, r⟩⟩ := h
 ·exact ⟨hl, .inl h1⟩
 ·exact ⟨hl, .inr ⟨g, cap, cur, hv, Nat.le_trans hb hg, r⟩⟩
theorem Ow.grown {w w' : World} {base : Nat} {v : Value} {l : List UInt8} {row : Option Nat} (h : Ow w base v l) (hg : w.grownBy w' row) (hne : v.ownBlock = none ∨ v.ownBlock ≠ row) : Ow w' base v l := World.ownsRow.kept h hg hne
theorem Ow.step {w w' : World} {base : Nat} {v : Value} {l : List UInt8} (h : Ow w base v l) (hb : Below w.heap.size w w') : Ow w' base v l :=
 World.ownsRow.kept h (grown_of_below hb none) (by cases v.ownBlock <;> simp)
theorem Ow.alloc {w : World} {base : Nat} {v : Value} {l : List UInt8} (h : Ow w base v l) (o : Obj) : Ow (w.alloc o) base v l := World.ownsRow.alloc h o
theorem Ow.drew {w : World} {base : Nat} {v : Value} {l : List UInt8} (h : Ow w base v l) : Ow w.drew base v l := h
/-- A new array of just these bytes. -/
theorem Ow.made {w : World} {base : Nat} (l : List UInt8) (cs : Array Value) (hcs : cs.toList = l.map bv) (hb : base ≤ w.heap.size) (hl : l.length ≤ maxLen) :
 Ow (w.alloc (.cells cs 5)) base (.slice (some ⟨w.heap.size, 0, none⟩) l.length l.length) l := by
 have hsz : cs.size = l.length := by rw [← Array.length_toList, hcs, List.length_map]
 refine ⟨by simp, .inr ⟨w.heap.size, l.length, cs, rfl, hb, heap_alloc_new w _, Nat.le_refl _, hl, by omega, ?_⟩⟩
 rw [hcs, List.take_of_length_le (by simp)]
/-- A new array of just these bytes, marked or not. -/
theorem Bs.made {w : World} (l : List UInt8) (cs : Array Value) (fr : Nat × Nat) (hcs : cs.toList = l.map bv) (n : Nat) (hn : n = l.length) (hl : l.length ≤ maxLen) :
 Bs (w.alloc (.cells cs 5 fr)) (.slice (some ⟨w.heap.size, 0, none⟩) n n) l := by
 subst hn
 refine ⟨_, _, rfl, Nat.le_refl _, hl, fun h0 => ⟨w.heap.size, 0, rfl, by simp, fun j hj => ?_⟩⟩
 rw [Nat.zero_add, cell_of_row _ w.heap.size j cs 5 fr (heap_alloc_new w _)]
 rw [← Array.getElem?_toList, hcs]
 simp [hj]
/-- A block that is just these bytes, as a slice. -/
theorem Bs.blk {w : World} {g : Nat} {cs : Array Value} {l : List UInt8} (h : Blk w g 5 cs) (hcs : cs.toList = l.map bv) (n : Nat) (hn : n = l.length) (hl : l.length ≤ maxLen) : Bs w (.slice (some ⟨g, 0, none⟩) n n) l := by
 subst hn
 refine ⟨_, _, rfl, Nat.le_refl _, hl, fun h0 => ⟨g, 0, rfl, h.lt, fun j hj => ?_⟩⟩
 rw [Nat.zero_add, h.cell, ← Array.getElem?_toList, hcs]
 simp [hj]
/-- n zero bytes in memory. -/
@[irreducible] def zb (n : Nat) : Array Value := Array.replicate n (bv 0)
theorem info_u8 : (Try.prog.info? 5).map (fun i => (i.zero, i.size, i.bytes)) = some (some (.int .u8 0), 1, 1) := by kernel_rfl
/-- append(v, x...) onto an own array. -/
theorem run_append_bs {w : World} (base : Nat) (ty : TypeId) {v x : Value} {l m : List UInt8} (hv : Ow w base v l) (hx : Bs w x m) (hlen : l.length + m.length ≤ 140737488355328) (hbase : base ≤ w.heap.size) :
 ∃ v' w', (Builtin.append_ #[102, 102] ty #[v, x]).run Try.prog w = .ok v' w' ∧ Ow w' base v' (l ++ m) ∧ w.grownBy w' v.ownBlock ∧ (v'.ownBlock = v.ownBlock ∨ v'.ownBlock = some w.heap.size) := by
 obtain ⟨i0, hi0, hz0, hz1, hz2⟩ := info_parts info_u8
 obtain ⟨A, c, rfl, h1, h2, h3⟩ := hx
 rcases Nat.eq_zero_or_pos m.length with h0 | h0
 ·have hm : m = [] := List.eq_nil_of_length_eq_zero h0
  subst hm
  cases A with
  | none =>
   refine ⟨v, w, ?_, by simpa using hv, grown_refl _ _, .inl rfl⟩
   obtain ⟨_, ⟨rfl, _⟩ | ⟨g, cap, cur, rfl, _, _, hn, _⟩⟩ := hv
   ·simp [Builtin.append_, run_underlying Try.underlying102, sizeOf, typeInfo, hi0, Builtin.lenOf, Builtin.firstCells]
   ·simp [Builtin.append_, run_underlying Try.underlying102, sizeOf, typeInfo, hi0, Builtin.lenOf, Builtin.firstCells, hn, storeCells]
  | some a =>
   obtain ⟨v', w', h4, h5, h6, _, h7⟩ := run_append_own_at (P := Try.prog) w base 102 ty 5 i0 (.int .u8 0) 1 1 Try.underlying102 hi0 hz0 hz1 hz2 rfl (by omega) v l.length (l.map bv) hv a 0 c [] rfl (by simp) (by simp) (by unfold maxLen; omega) (by omega) hbase
   exact ⟨v', w', h4, by simpa [Ow] using h5, h6, h7⟩
 ·obtain ⟨b, off, rfl, hb, hcell⟩ := h3 h0
  obtain ⟨v', w', h4, h5, h6, _, h7⟩ := run_append_own_at (P := Try.prog) w base 102 ty 5 i0 (.int .u8 0) 1 1 Try.underlying102 hi0 hz0 hz1 hz2 rfl (by omega) v l.length (l.map bv) hv ⟨b, off, none⟩ m.length c (m.map bv) (by simp)
   (fun j u hu => by
    have hj : j < m.length := by
     have := (List.getElem?_eq_some_iff.1 hu).1
     simpa using this
    rw [add_plain, hcell j hj]
    rw [List.getElem?_map, List.getElem?_eq_getElem hj] at hu
    exact hu)
   (fun u hu => by obtain ⟨x, _, rfl⟩ := List.mem_map.1 hu; exact bv_one x) (by unfold maxLen; omega) (by omega) hbase
  exact ⟨v', w', h4, by simpa [Ow] using h5, h6, h7⟩
theorem wpList_append_bs {ops : Array Oper} {rest : List Oper} {o : Oper} {a : Act} {w : World} {Q : Exit → Act → World → Prop} (hgd : o.guard = none) (s x : Operand)
 (ho : o.op = .call { callee := .builtin .append, args := #[s, x], argTypes := #[102, 102] }) (base : Nat) {v vx : Value} {l m : List UInt8}
 (hs : a.eval s = v) (hv : Ow w base v l) (hx : a.eval x = vx) (hm : Bs w vx m) (hlen : l.length + m.length ≤ 140737488355328) (hbase : base ≤ w.heap.size)
 (h : ∀ v' w', Ow w' base v' (l ++ m) → w.grownBy w' v.ownBlock → (v'.ownBlock = v.ownBlock ∨ v'.ownBlock = some w.heap.size) → wpList Try.prog ops Q rest (a.put o.dst v') w') : wpList Try.prog ops Q (o :: rest) a w := by
 refine wpList_plain hgd fun K hK => ?_
 obtain ⟨v', w', h1, h2, h3, h4⟩ := run_append_bs base o.type hv hm hlen hbase
 unfold Oper.wp execOp
 simp only [ho, resolve, invoke, builtin, Sem.run_bind, Sem.run_pure, Result.andThen_ok, List.map_toArray, List.map_cons, List.map_nil, hs, hx, h1]
 exact hK _ _ (h v' w' h2 h3 h4)
/-- string(v) -/
theorem run_string_bs {w : World} {v : Value} {l : List UInt8} (h : Bs w v l) : (convert 102 9 v).run Try.prog w = .ok (.string ⟨l.toArray⟩) w := by
 obtain ⟨A, c, rfl, h1, h2, h3⟩ := h
 rcases Nat.eq_zero_or_pos l.length with h0 | h0
 ·have hl : l = [] := List.eq_nil_of_length_eq_zero h0
  subst hl
  cases A with
  | none => exact run_convert_bytes_nil w 102 5 Try.underlying102 Try.underlying5 0 c 9 Try.underlying9
  | some a =>
   have hb := run_bytesToString (P := Try.prog) w a 0 c [] (run_loadCells_list (P := Try.prog) w a [] (by simp))
   rw [List.length_nil, run_convert_bytes_string w 102 9 5 (some a) 0 c Try.underlying102 Try.underlying5 Try.underlying9, hb]
   rfl
 ·obtain ⟨b, off, rfl, hb, hcell⟩ := h3 h0
  have := run_convert_bytes_arg (P := Try.prog) w 102 5 Try.underlying102 Try.underlying5 b off l.length c (l.map fun x => (x.toNat : Int)) (by simp)
   (fun i hi => by rw [hcell i hi]; simp [bv, u8, List.getD, hi]) 9 Try.underlying9
  rw [this]
  have e : ∀ l : List UInt8, strOfNums (l.map fun x => (x.toNat : Int)) = ⟨l.toArray⟩ := fun l => by
   unfold strOfNums
   rw [List.map_map, List.map_congr_left (g := id) (fun x _ => by simp), List.map_id]
  rw [e]
end
section
open Go.ChangeShapes Go.WideShapes Go.ChangeAt Go.RowKit
/-- Of what lay there, at most the blocks of S have turned. -/
structure Touch (S : List Nat) (w w' : World) : Prop where
 os : w'.os = w.os
 tape : w'.tape = w.tape
 output : w'.output = w.output
 size : w.heap.size ≤ w'.heap.size
 block : ∀ k, k < w.heap.size → k ∉ S → w'.heap[k]? = w.heap[k]?
theorem Touch.refl (S : List Nat) (w : World) : Touch S w w := ⟨rfl, rfl, rfl, Nat.le_refl _, fun _ _ _ => rfl⟩
theorem Touch.next {S T : List Nat} {w w1 w2 : World} (h : Touch S w w1) (k : Touch T w1 w2) (hT : ∀ t ∈ T, t ∈ S ∨ w.heap.size ≤ t) : Touch S w w2 := by
 refine ⟨k.os.trans h.os, k.tape.trans h.tape, k.output.trans h.output, Nat.le_trans h.size k.size, fun i hi hne => ?_⟩
 rw [k.block i (Nat.lt_of_lt_of_le hi h.size) ?_, h.block i hi hne]
 intro hm
 rcases hT i hm with h1 | h1
 ·exact hne h1
 ·omega
theorem Touch.trans {S : List Nat} {w w1 w2 : World} (h : Touch S w w1) (k : Touch S w1 w2) : Touch S w w2 := h.next k fun _ ht => .inl ht
theorem Touch.mono {S T : List Nat} {w w' : World} (h : Touch S w w') (hs : ∀ s ∈ S, s ∈ T ∨ w.heap.size ≤ s) : Touch T w w' :=
 (Touch.refl T w).next h hs
theorem Touch.grown {w w' : World} {row : Option Nat} (h : w.grownBy w' row) : Touch row.toList w w' := ⟨h.os, h.tape, h.output, h.size, fun k hk hne => h.block k hk (by intro e; rw [← e] at hne; simp at hne)⟩
theorem Touch.one {w w' : World} {g : Nat} (h : w.grownBy w' (some g)) : Touch [g] w w' := Touch.grown h
theorem Touch.below {w w' : World} (h : Below w.heap.size w w') (S : List Nat) : Touch S w w' := ⟨h.os, h.tape, h.output, h.size, fun k hk _ => h.block k hk⟩
theorem Touch.to_below {S : List Nat} {w w' : World} {B : Nat} (h : Touch S w w') (hS : ∀ s ∈ S, B ≤ s) (hB : B ≤ w.heap.size) : Below B w w' :=
 ⟨h.os, h.tape, h.output, h.size, fun k hk => h.block k (Nat.lt_of_lt_of_le hk hB) fun hm => by have := hS k hm; omega⟩
theorem Below.touch {S : List Nat} {a w w' : World} {B : Nat} (hb : Below B a w) (h : Touch S w w') (hS : ∀ s ∈ S, B ≤ s) (hB : B ≤ w.heap.size) : Below B a w' := hb.trans (h.to_below hS hB)
theorem Touch.set {S : List Nat} {a w : World} {g : Nat} (h : Touch S a w) (hg : g ∈ S ∨ a.heap.size ≤ g) (o : Nat) (v : Value) : Touch S a (w.setCell ⟨g, o, none⟩ v) :=
 h.next (Touch.one (grown_set (grown_refl w (some g)) o v)) (by intro t ht; simp at ht; subst ht; exact hg)
theorem Touch.alloc {S : List Nat} {a w : World} (h : Touch S a w) (o : Obj) : Touch S a (w.alloc o) :=
 h.next (T := []) (Touch.grown (grown_alloc (grown_refl w none) o)) (by simp)
theorem Touch.drew {S : List Nat} {a w : World} (h : Touch S a w) : Touch S a w.drew := ⟨h.os, h.tape, h.output, h.size, h.block⟩
theorem Touch.step {S : List Nat} {a w w' : World} (h : Touch S a w) (hb : Below w.heap.size w w') : Touch S a w' := h.next (Touch.below hb []) (by simp)
theorem Blk.touch {S : List Nat} {w w' : World} {g : Nat} {t : TypeId} {cs : Array Value} (h : Blk w g t cs) (k : Touch S w w') (hg : g ∉ S) : Blk w' g t cs := (k.block g h.lt hg).trans h
theorem Bs.touch {S : List Nat} {w w' : World} {v : Value} {l : List UInt8} (h : Bs w v l) (k : Touch S w w') (hv : ∀ j, v.ownBlock = some j → j ∉ S) : Bs w' v l :=
 h.keep k.size fun p hp e => World.cell?_of_block (k.block p.block hp (hv _ e))
theorem Ow.touch {S : List Nat} {w w' : World} {base : Nat} {v : Value} {l : List UInt8} (h : Ow w base v l) (k : Touch S w w') (hv : ∀ j, v.ownBlock = some j → j ∉ S) : Ow w' base v l := by
 refine ⟨h.1, ?_⟩
 rcases h.2 with hn | ⟨g, cap, cur, rfl, hb, hgg, rest⟩
 ·exact .inl hn
 ·exact .inr ⟨g, cap, cur, rfl, hb, (k.block g (h.lt g rfl).2 (hv g rfl)).trans hgg, rest⟩
/-- A slice's shape, its length behind a letter. -/
theorem Bs.formN {w : World} {v : Value} {l : List UInt8} (h : Bs w v l) : ∃ A m c, v = .slice A m c ∧ Hid (m = l.length) ∧ m ≤ c ∧ c ≤ 9223372036854775807 := by
 obtain ⟨A, c, hv, h1, h2⟩ := h.form
 exact ⟨A, l.length, c, hv, rfl, h1, h2⟩
theorem Ow.formN {w : World} {base : Nat} {v : Value} {l : List UInt8} (h : Ow w base v l) : ∃ A m c, v = .slice A m c ∧ Hid (m = l.length) ∧ m ≤ c ∧ c ≤ 9223372036854775807 := h.bs.formN
end
section
open Go.ChangeShapes Go.WideShapes Go.ChangeAt Go.RowKit
theorem Blk.setCells {g : Nat} {t : TypeId} : ∀ (vs : List Value) (o : Nat) (w : World) (cs : Array Value), Blk w g t cs → o + vs.length ≤ cs.size →
 Blk (w.setCells g o vs) g t (cs.toList.take o ++ vs ++ cs.toList.drop (o + vs.length)).toArray
 | [], o, w, cs, h, hl => by
  have e : (cs.toList.take o ++ [] ++ cs.toList.drop (o + ([] : List Value).length)).toArray = cs := by simp
  rw [e]; exact h
 | v :: vs, o, w, cs, h, hl => by
  have h2 := Blk.setCells vs (o + 1) (w.setCell ⟨g, o, none⟩ v) _ (h.put o v) (by simp at hl ⊢; omega)
  have e : ((cs.setIfInBounds o v).toList.take (o + 1) ++ vs ++ (cs.setIfInBounds o v).toList.drop (o + 1 + vs.length)).toArray = (cs.toList.take o ++ (v :: vs) ++ cs.toList.drop (o + (v :: vs).length)).toArray := by
   congr 1
   have ho : o < cs.toList.length := by simp at hl ⊢; omega
   rw [Array.toList_setIfInBounds, List.drop_set_of_lt (by omega), List.take_succ_eq_append_getElem (by simpa using ho), List.take_set_of_le (Nat.le_refl _)]
   simp
   rw [show o + 1 + vs.length = o + (vs.length + 1) by omega]
  rw [e] at h2
  exact h2
theorem Blk.stored {w : World} {g : Nat} {t : TypeId} {old new : Array Value} (h : Blk w g t old) (hs : new.size = old.size) : Blk (w.setCells g 0 new.toList) g t new := by
 have h2 := Blk.setCells new.toList 0 w old h (by simp [hs])
 have e : (old.toList.take 0 ++ new.toList ++ old.toList.drop (0 + new.toList.length)).toArray = new := by
  rw [List.drop_eq_nil_of_le (by simp [hs])]
  simp
 rw [e] at h2
 exact h2
theorem Blk.there {w : World} {g : Nat} {t : TypeId} {cs : Array Value} (h : Blk w g t cs) {n : Nat} (hn : n = cs.size) : w.there g 0 n := fun j hj => by
 rw [Nat.zero_add, h.cell j, h.froz j]
 exact ⟨by rw [Array.getElem?_eq_getElem (by omega)]; rfl, rfl⟩
theorem touch_setCells (w : World) (g o : Nat) (vs : List Value) : Touch [g] w (w.setCells g o vs) ∧ (w.setCells g o vs).heap.size = w.heap.size := by
 induction vs generalizing w o with
 | nil => exact ⟨Touch.refl _ _, rfl⟩
 | cons v vs ih =>
  have h := ih (w.setCell ⟨g, o, none⟩ v) (o + 1)
  have k : Touch [g] w (w.setCell ⟨g, o, none⟩ v) := (Touch.refl [g] w).set (by simp) o v
  exact ⟨k.trans h.1, h.2.trans (by simp [World.setCell])⟩
/-- A struct is stored into a block that holds just it: the world behind goes by a name. -/
theorem wpList_store_blk {P : Program} {w : World} {ops : Array Oper} {rest : List Oper} {op : Oper} {a : Act} {Q : Exit → Act → World → Prop} (hgd : op.guard = none) (ty : TypeId) (x y : Operand) (ho : op.op = .store ty x y)
 (g : Nat) (t : TypeId) (old new : Array Value) (hx : a.eval x = .pointer (some ⟨g, 0, none⟩)) (hy : a.eval y = .agg new) (hb : Blk w g t old) (hs : new.size = old.size)
 (hi : (P.info? ty).map (·.size) = some new.size) (h1 : new.all (·.oneCell') = true)
 (h : ∀ w', Blk w' g t new → Touch [g] w w' → w'.heap.size = w.heap.size → wpList P ops Q rest (a.put op.dst undef) w') : wpList P ops Q (op :: rest) a w :=
 wpList_store_mid hgd ty x y ho g 0 new hx hy (hb.there hs) hi h1 (h _ (hb.stored hs) (touch_setCells w g 0 _).1 (touch_setCells w g 0 _).2)
theorem wpList_load_blk {P : Program} {w : World} {ops : Array Oper} {rest : List Oper} {o : Oper} {a : Act} {Q : Exit → Act → World → Prop} (hgd : o.guard = none) (ty : TypeId) (x : Operand) (ho : o.op = .load ty x)
 (g : Nat) (t : TypeId) (cs : Array Value) (d : TypeDesc) (hx : a.eval x = .pointer (some ⟨g, 0, none⟩)) (hb : Blk w g t cs)
 (hu : P.underlying ty = some d) (hd : (match d with | .struct _ | .array _ _ => true | _ => false) = true) (hi : (P.info? ty).map (·.size) = some cs.size)
 (h : wpList P ops Q rest (a.put o.dst (.agg cs)) w) : wpList P ops Q (o :: rest) a w := wpList_load_row hgd ty x ho g hx t cs (0, 0) d hb hu hd hi h
theorem step_store_blk {P : Program} {w : World} {ops : Array Oper} {o : Oper} {a : Act} {K : Act → World → Prop} {Q : Exit → Act → World → Prop} {E : Prop} (hgd : o.guard = none) (ty : TypeId) (x y : Operand) (ho : o.op = .store ty x y)
 (g : Nat) (t : TypeId) (old new : Array Value) (hx : a.eval x = .pointer (some ⟨g, 0, none⟩)) (hy : a.eval y = .agg new) (hb : Blk w g t old) (hs : new.size = old.size)
 (hi : (P.info? ty).map (·.size) = some new.size) (h1 : new.all (·.oneCell') = true)
 (h : ∀ w', Blk w' g t new → Touch [g] w w' → w'.heap.size = w.heap.size → K (a.put o.dst undef) w') :
 if Region.wanted o (yielded ops a.tmps) = true then Oper.wp P o a w K Q else E := by
 have hw : Region.wanted o (yielded ops a.tmps) = true := by simp [Region.wanted, hgd]
 rw [if_pos hw]
 exact wp_store_mid ty x y ho g 0 new hx hy (hb.there hs) hi h1 (h _ (hb.stored hs) (touch_setCells w g 0 _).1 (touch_setCells w g 0 _).2)
theorem results_row_tmp {P : Program} {fn : Func} {p u : Tmp} {ty : TypeId} (h : fn.results = #[.cell p ty, .tmp u]) (tmps : Array Value) (w : World) (g : Nat) (t : TypeId) (cs : Array Value) (fr : Nat × Nat) (d : TypeDesc) (v : Value)
 (hp : tmps.getD p undef = .pointer (some ⟨g, 0, none⟩)) (hv : tmps.getD u undef = v) (hg : w.heap[g]? = some (.cells cs t fr))
 (hu : P.underlying ty = some d) (hd : (match d with | .struct _ | .array _ _ => true | _ => false) = true) (hi : (P.info? ty).map (·.size) = some cs.size) :
 (results fn tmps).run P w = .ok (.tuple #[.agg cs, v]) w := by
 have hp' : tmps[p]?.getD undef = .pointer (some ⟨g, 0, none⟩) := by simpa using hp
 have hv' : tmps[u]?.getD undef = v := by simpa using hv
 simp [results, h, hp', hv', asAddr, run_loadVar_row w g t ty cs fr d hg hu hd hi]
end
section
open Go.ChangeShapes Go.WideShapes Go.ChangeAt Go.RowKit
theorem wpList_build {P : Program} {w : World} {ops : Array Oper} {rest : List Oper} {o : Oper} {a : Act} {Q : Exit → Act → World → Prop} (hgd : o.guard = none) (t : TypeId) (parts : Array (Nat × Operand)) (ho : o.op = .build t parts)
 (vs : List (Nat × Value)) (he : (parts.map fun (i, x) => (i, a.eval x)).toList = vs) (cells : Array Value) (hc : P.built t vs = some cells)
 (h : wpList P ops Q rest (a.put o.dst (.agg cells)) w) : wpList P ops Q (o :: rest) a w := wpList_plain hgd fun K hK => by
 unfold Oper.wp execOp
 subst he
 simp only [ho, Sem.run_bind, run_build w t _ cells hc, Result.andThen_ok]
 exact hK _ _ h
theorem run_alloc {P : Program} {w : World} {t : TypeId} {cs : Array Value} (hi : (P.info? t).map (·.zero) = some (some (.agg cs))) : (Instr.alloc t true (.tuple #[])).run P w = .ok (.pointer (some ⟨w.heap.size, 0, none⟩)) (w.alloc (.cells cs t)) := by
 obtain ⟨i, hi1, hi2⟩ := Option.map_eq_some_iff.mp hi
 simp [Instr.alloc, zeroValue, typeInfo, hi1, hi2, Value.cells, newVar, newRow, go_sem]
theorem wpList_alloc_blk {P : Program} {w : World} {ops : Array Oper} {rest : List Oper} {o : Oper} {a : Act} {Q : Exit → Act → World → Prop} (hgd : o.guard = none) (t : TypeId) (ho : o.op = .alloc t)
 (cs : Array Value) (hi : (P.info? t).map (·.zero) = some (some (.agg cs)))
 (h : ∀ w', Blk w' w.heap.size t cs → Below w.heap.size w w' → w'.heap.size = w.heap.size + 1 → wpList P ops Q rest (a.put o.dst (.pointer (some ⟨w.heap.size, 0, none⟩))) w') : wpList P ops Q (o :: rest) a w := wpList_plain hgd fun K hK => by
 unfold Oper.wp execOp
 simp only [ho, Sem.run_bind, run_alloc hi, Result.andThen_ok]
 exact hK _ _ (h _ (Blk.new w t cs) ((Below.refl _ _).alloc (Nat.le_refl _) _) (by simp))
theorem run_box {P : Program} {w : World} {t : TypeId} {cs : Array Value} : (Instr.box t (.agg cs)).run P w = .ok (.pointer (some ⟨w.heap.size, 0, none⟩)) (w.alloc (.cells cs t)) := by
 simp [Instr.box, Value.cells, newVar, newRow, go_sem]
theorem wpList_box_blk {P : Program} {w : World} {ops : Array Oper} {rest : List Oper} {o : Oper} {a : Act} {Q : Exit → Act → World → Prop} (hgd : o.guard = none) (t : TypeId) (x : Operand) (ho : o.op = .box t x)
 (cs : Array Value) (hx : a.eval x = .agg cs)
 (h : ∀ w', Blk w' w.heap.size t cs → Below w.heap.size w w' → w'.heap.size = w.heap.size + 1 → wpList P ops Q rest (a.put o.dst (.pointer (some ⟨w.heap.size, 0, none⟩))) w') : wpList P ops Q (o :: rest) a w := wpList_plain hgd fun K hK => by
 unfold Oper.wp execOp
 simp only [ho, hx, Sem.run_bind, run_box, Result.andThen_ok]
 exact hK _ _ (h _ (Blk.new w t cs) ((Below.refl _ _).alloc (Nat.le_refl _) _) (by simp))
theorem have_tail1 {goal : Prop} {G I : World → Prop} (main : (∀ w, I w → G w) → goal) (tl : ∀ w, I w → G w) : goal := main tl
end
section
open Go.ChangeShapes Go.WideShapes Go.ChangeAt Go.RowKit
/-- Since w0: the blocks of L hold just what L says, no two are one, all are new; of the old ones at most those of S have turned. -/
structure Own (w0 : World) (S : List Nat) (L : List (Nat × TypeId × List Value)) (W : World) : Prop where
 has : ∀ e ∈ L, Blk W e.1 e.2.1 e.2.2.toArray ∧ w0.heap.size ≤ e.1
 apart : (L.map (·.1)).Nodup
 touch : Touch S w0 W
 old : ∀ s ∈ S, s < w0.heap.size
section
variable {w0 W W' : World} {S : List Nat} {L : List (Nat × TypeId × List Value)}
theorem Own.nil (w0 : World) (S : List Nat) (h : ∀ s ∈ S, s < w0.heap.size) : Own w0 S [] w0 := ⟨by simp, by simp, Touch.refl _ _, h⟩
theorem Own.size (h : Own w0 S L W) : w0.heap.size ≤ W.heap.size := h.touch.size
theorem Own.blk (h : Own w0 S L W) (i : Nat) {b : Nat} {t : TypeId} {cs : List Value} (hi : L[i]? = some (b, t, cs)) : Blk W b t cs.toArray := (h.has _ (List.mem_of_getElem? hi)).1
theorem Own.new (h : Own w0 S L W) (i : Nat) {b : Nat} {t : TypeId} {cs : List Value} (hi : L[i]? = some (b, t, cs)) : w0.heap.size ≤ b := (h.has _ (List.mem_of_getElem? hi)).2
theorem Own.cells (h : Own w0 S L W) (i : Nat) {b : Nat} {t : TypeId} {cs : List Value} (hi : L[i]? = some (b, t, cs)) : ∀ j, W.cell? ⟨b, j, none⟩ = cs[j]? := fun j => by rw [(h.blk i hi).cell j, List.getElem?_toArray]
theorem Own.froz (h : Own w0 S L W) (i : Nat) {b : Nat} {t : TypeId} {cs : List Value} (hi : L[i]? = some (b, t, cs)) : ∀ j, W.frozen? ⟨b, j, none⟩ = false := fun j => (h.blk i hi).froz j
theorem Own.push (h : Own w0 S L W) {t : TypeId} {cs : List Value} (hx : Blk W' W.heap.size t cs.toArray) (hb : Below W.heap.size W W') : Own w0 S (L ++ [(W.heap.size, t, cs)]) W' := by
 refine ⟨fun e he => ?_, ?_, h.touch.step hb, h.old⟩
 ·rcases List.mem_append.1 he with he | he
  ·exact ⟨(h.has e he).1.step hb, (h.has e he).2⟩
  ·simp only [List.mem_singleton] at he; subst he; exact ⟨hx, h.size⟩
 ·rw [List.map_append, List.nodup_append]
  refine ⟨h.apart, by simp, ?_⟩
  intro a ha b hb' e
  simp only [List.map_cons, List.map_nil, List.mem_singleton] at hb'
  subst hb' e
  obtain ⟨e, he, e2⟩ := List.mem_map.1 ha
  have := (h.has e he).1.lt
  omega
theorem Own.put (h : Own w0 S L W) (i : Nat) {b : Nat} {t : TypeId} {cs new : List Value} (hi : L[i]? = some (b, t, cs)) (hx : Blk W' b t new.toArray) (ht : Touch [b] W W') : Own w0 S (L.set i (b, t, new)) W' := by
 have hm : (L.set i (b, t, new)).map (·.1) = L.map (·.1) := by
  rw [List.map_set]
  refine List.ext_getElem? fun j => ?_
  rw [List.getElem?_set]
  by_cases hj : i = j
  ·subst hj
   have hl := (List.getElem?_eq_some_iff.1 hi).1
   rw [if_pos rfl, if_pos (by simpa using hl), List.getElem?_map, hi]; rfl
  ·rw [if_neg hj]
 have hnew := h.new i hi
 refine ⟨fun e he => ?_, hm ▸ h.apart, h.touch.next ht (fun x hx' => by simp only [List.mem_singleton] at hx'; subst hx'; exact .inr hnew), h.old⟩
 obtain ⟨j, hj⟩ := List.getElem?_of_mem he
 rw [List.getElem?_set] at hj
 by_cases hij : i = j
 ·subst hij
  have hl := (List.getElem?_eq_some_iff.1 hi).1
  rw [if_pos rfl, if_pos hl] at hj
  injection hj with hj
  subst hj
  exact ⟨hx, hnew⟩
 ·rw [if_neg hij] at hj
  have hmem := List.mem_of_getElem? hj
  refine ⟨(h.has e hmem).1.touch ht ?_, (h.has e hmem).2⟩
  simp only [List.mem_singleton]
  intro e1
  have hnd := List.pairwise_iff_getElem.1 h.apart
  have hl1 := (List.getElem?_eq_some_iff.1 hi).1
  have hl2 := (List.getElem?_eq_some_iff.1 hj).1
  have q1 : (L.map (·.1))[i]'(by simpa using hl1) = b := by rw [List.getElem_map, (List.getElem?_eq_some_iff.1 hi).2]
  have q2 : (L.map (·.1))[j]'(by simpa using hl2) = b := by rw [List.getElem_map, (List.getElem?_eq_some_iff.1 hj).2]; exact e1
  rcases Nat.lt_or_gt_of_ne hij with h1 | h1
  ·exact hnd i j (by simpa using hl1) (by simpa using hl2) h1 (q1.trans q2.symm)
  ·exact hnd j i (by simpa using hl2) (by simpa using hl1) h1 (q2.trans q1.symm)
theorem Own.set (h : Own w0 S L W) (i : Nat) {b : Nat} {t : TypeId} {cs : List Value} (hi : L[i]? = some (b, t, cs)) (j : Nat) (v : Value) : Own w0 S (L.set i (b, t, cs.set j v)) (W.setCell ⟨b, j, none⟩ v) :=
 h.put i hi (by have := (h.blk i hi).put j v; rwa [List.setIfInBounds_toArray] at this) ((Touch.refl [b] W).set (by simp) j v)
theorem Own.drew (h : Own w0 S L W) : Own w0 S L W.drew := ⟨fun e he => ⟨(h.has e he).1.drew, (h.has e he).2⟩, h.apart, h.touch.drew, h.old⟩
theorem Own.step (h : Own w0 S L W) (hb : Below W.heap.size W W') : Own w0 S L W' := ⟨fun e he => ⟨(h.has e he).1.step hb, (h.has e he).2⟩, h.apart, h.touch.step hb, h.old⟩
theorem Own.call (h : Own w0 S L W) {T : List Nat} (ht : Touch T W W') (hT : ∀ s ∈ T, s ∈ S) : Own w0 S L W' :=
 ⟨fun e he => ⟨(h.has e he).1.touch ht (fun hm => by have := h.old _ (hT _ hm); have := (h.has e he).2; omega), (h.has e he).2⟩, h.apart, h.touch.next ht (fun t hm => .inl (hT t hm)), h.old⟩
theorem Own.below (h : Own w0 [] L W) : Below w0.heap.size w0 W := h.touch.to_below (by simp) (Nat.le_refl _)
theorem Own.alloc (h : Own w0 S L W) (o : Obj) : Own w0 S L (W.alloc o) := h.step ((Below.refl _ _).alloc (Nat.le_refl _) _)
end
theorem Blk.range {w : World} {g : Nat} {t : TypeId} {pre cs : List Value} (h : Blk w g t (pre ++ cs).toArray) : w.rangeAt g pre.length cs := fun j v hv => by
 rw [h.cell (pre.length + j), List.getElem?_toArray, List.getElem?_append_right (by omega)]
 simpa using hv
theorem Own.k0 {w0 W : World} {S : List Nat} {b : Nat} {t : TypeId} {cs : List Value} {L : List (Nat × TypeId × List Value)} {x : Nat} {v : Value} (h : Own w0 S ((b, t, cs) :: L) W) (hc : cs[x]? = some v) : W.cell? ⟨b, x, none⟩ = some v :=
 (h.cells 0 rfl x).trans hc
end
section
open List renaming getElem_toArray → qa, getElem_cons_zero → qb, getElem_cons_succ → qc, setIfInBounds_toArray → qd, set_cons_zero → qe, set_cons_succ → qf
open Go.RowKit
theorem heldMono {P : Program} {md : Region.Mode} {ops : Array Oper} {Q : Exit → Act → World → Prop} {S S' : World → Prop} (h : ∀ w, S' w → S w) :
 ∀ (fuel : Nat) (listed : Array Bool) (a : Act) (w : World), wpAnyH P md ops Q S' fuel listed a w → wpAnyH P md ops Q S fuel listed a w
 | 0, _, _, _, hw => hw
 | fuel + 1, _, _, _, hw => ⟨hw.1, fun i hi => wpOp_mono (fun a' w' h' => ⟨h w' h'.1, heldMono h fuel _ a' w' h'.2⟩) (hw.2 i hi)⟩
theorem tk (i : Nat) {P : Program} {md : Region.Mode} {ops : Array Oper} {S : World → Prop} {Q : Exit → Act → World → Prop} {oi : Oper} {v : Value} {fuel : Nat} {listed : Array Bool} {a a' : Act} {w : World}
 (h : wpAnyH P md ops Q S fuel (listed.setIfInBounds i true) a' w) (hi : ops[i]? = some oi := by rfl) (hS : S w := by assumption) (hs : Region.noSelect ops = true := by kernel_rfl) (hf : Region.free md ops listed i = true := by kernel_rfl) (hr : (Region.ready md ops listed).contains i = true := by kernel_rfl)
 (hQ : ∀ c a w, Q (.panic c) (a.put oi.dst v) w → Q (.panic c) a w := by exact fun _ _ _ h => h) (hg : Region.wanted oi (yielded ops a.tmps) = true := by rfl) (hy : ∀ w, S w → (execOp a.eval oi).run P w = .ok (.value v) w := by intro w hSw; (try dsimp only at hSw); go_simp; first | done | (with_reducible rfl))
 (ha : a.put oi.dst v = a' := by (try simp only [Act.put, qa, qb, qc, qd, qe, qf]); rfl) : wpAnyH P md ops Q S (fuel + 1) listed a w :=
 wpAnyH_take hi hs hf hr hQ (Or.inl ⟨hg, hy⟩) hS (ha ▸ h)
theorem ty (i : Nat) (v : Value) {P : Program} {md : Region.Mode} {ops : Array Oper} {S : World → Prop} {Q : Exit → Act → World → Prop} {oi : Oper} {fuel : Nat} {listed : Array Bool} {a a' : Act} {w : World} (hi : ops[i]? = some oi) (hy : YieldsIf P ops S oi v a)
 (h : wpAnyH P md ops Q S fuel (listed.setIfInBounds i true) a' w) (hs : Region.noSelect ops = true := by kernel_rfl) (hf : Region.free md ops listed i = true := by kernel_rfl) (hr : (Region.ready md ops listed).contains i = true := by kernel_rfl)
 (hQ : ∀ c a w, Q (.panic c) (a.put oi.dst v) w → Q (.panic c) a w := by exact fun _ _ _ h => h) (hS : S w := by assumption)
 (ha : a.put oi.dst v = a' := by (try simp only [Act.put, qa, qb, qc, qd, qe, qf]); rfl) : wpAnyH P md ops Q S (fuel + 1) listed a w :=
 wpAnyH_take hi hs hf hr hQ hy hS (ha ▸ h)
theorem tr1 (i : Nat) {P : Program} {md : Region.Mode} {ops : Array Oper} {S : World → Prop} {Q : Exit → Act → World → Prop} {o : Oper} {fuel : Nat} {listed : Array Bool} {a : Act} {w : World}
 (h : ∀ K' : Act → World → Prop, Shut (∀ a w, S w → (S w → wpAnyH P md ops Q S fuel (listed.setIfInBounds i true) a w) → K' a w) → if Region.wanted o (yielded ops a.tmps) = true then Oper.wp P o a w K' Q else K' (a.put o.dst undef) w)
 (hr : Region.ready md ops listed = [i] := by kernel_rfl) (ho : ops[i]? = some o := by rfl) : wpAnyH P md ops Q S (fuel + 1) listed a w :=
 wpAnyH_ready hr (by simp) (AllReadyH.cons ho h AllReadyH.nil)
theorem tu (i : Nat) {P : Program} {md : Region.Mode} {ops : Array Oper} {S : World → Prop} {Q : Exit → Act → World → Prop} {oi : Oper} {fuel : Nat} {listed : Array Bool} {a a' : Act} {w : World}
 (h : wpAnyH P md ops Q S fuel (listed.setIfInBounds i true) a' w) (hi : ops[i]? = some oi := by rfl) (hy : YieldsIf P ops S oi undef a := by exact Or.inr ⟨by rfl, rfl⟩) (hs : Region.noSelect ops = true := by kernel_rfl) (hf : Region.free md ops listed i = true := by kernel_rfl) (hr : (Region.ready md ops listed).contains i = true := by kernel_rfl)
 (hQ : ∀ c a w, Q (.panic c) (a.put oi.dst undef) w → Q (.panic c) a w := by exact fun _ _ _ h => h) (hS : S w := by assumption)
 (ha : a.put oi.dst undef = a' := by (try simp only [Act.put, qa, qb, qc, qd, qe, qf]); rfl) : wpAnyH P md ops Q S (fuel + 1) listed a w :=
 wpAnyH_take hi hs hf hr hQ hy hS (ha ▸ h)
theorem nof {P : Prop} (h : ¬ P) : (false = true) ↔ P := ⟨fun h => (Bool.false_ne_true h).elim, fun x => (h x).elim⟩
end
section
open Go.ChangeShapes Go.WideShapes Go.ChangeAt Go.RowKit
theorem storeVar_one {ty : TypeId} {a : Addr} {v : Value} (hv : v.oneCell' = true) : storeVar ty a v = storeVar ty a (.agg #[v]) := by
 cases v <;> first | rfl | (simp [Value.oneCell'] at hv)
/-- A value as the cells it is stored as. -/
def Fits (v : Value) (vs : List Value) : Prop := v = .agg vs.toArray ∨ (v.oneCell' = true ∧ vs = [v])
theorem fits_agg (vs : List Value) : Fits (.agg vs.toArray) vs := .inl rfl
theorem fits_one {v : Value} (h : v.oneCell' = true) : Fits v [v] := .inr ⟨h, rfl⟩
theorem run_store_own {P : Program} {w : World} {ty : TypeId} {g o : Nat} {t : TypeId} {old vs : List Value} {v : Value} (hv : Fits v vs) (hb : Blk w g t old.toArray) (hs : o + vs.length ≤ old.length)
 (hi : (P.info? ty).map (·.size) = some vs.length) (h1 : vs.all (·.oneCell') = true) : (Instr.storeAt ty (.pointer (some ⟨g, o, none⟩)) v).run P w = .ok () (w.setCells g o vs) := by
 have hth : w.there g o vs.toArray.size := fun j hj => by
  simp only [List.size_toArray] at hj
  rw [hb.cell (o + j), hb.froz (o + j)]
  exact ⟨by rw [List.getElem?_toArray, List.getElem?_eq_getElem (by omega)]; rfl, rfl⟩
 have h2 := run_storeAt_mid (P := P) w g o ty vs.toArray hth (by simpa using hi) (by simpa using h1)
 rcases hv with rfl | ⟨hv, rfl⟩
 ·exact h2
 ·simp only [Instr.storeAt, storeVar_one hv] at h2 ⊢
  exact h2
section
variable {P : Program} {w w0 : World} {S : List Nat} {L : List (Nat × TypeId × List Value)} {ops : Array Oper} {rest : List Oper} {op : Oper} {a : Act} {Q : Exit → Act → World → Prop}
theorem own_store (HO : Own w0 S L w) (i : Nat) {g o : Nat} {t : TypeId} {old vs new : List Value} (hL : L[i]? = some (g, t, old)) (hs : o + vs.length ≤ old.length) (hn : old.take o ++ vs ++ old.drop (o + vs.length) = new) : Own w0 S (L.set i (g, t, new)) (w.setCells g o vs) := by
 have h2 := Blk.setCells vs o w _ (HO.blk i hL) (by simpa using hs)
 subst hn
 exact HO.put i hL h2 (touch_setCells w g o _).1
theorem wpList_store_own (HO : Own w0 S L w) (hgd : op.guard = none) (ty : TypeId) (x y : Operand) (ho : op.op = .store ty x y) (i g o : Nat) (t : TypeId) (old vs new : List Value) (hL : L[i]? = some (g, t, old))
 (v : Value) (hx : a.eval x = .pointer (some ⟨g, o, none⟩)) (hy : a.eval y = v) (hv : Fits v vs) (hs : o + vs.length ≤ old.length) (hn : old.take o ++ vs ++ old.drop (o + vs.length) = new)
 (hi : (P.info? ty).map (·.size) = some vs.length) (h1 : vs.all (·.oneCell') = true)
 (h : ∀ w', Own w0 S (L.set i (g, t, new)) w' → wpList P ops Q rest (a.put op.dst undef) w') : wpList P ops Q (op :: rest) a w := wpList_plain hgd fun K hK => by
 unfold Oper.wp execOp
 simp only [ho, hx, hy, Sem.run_bind, run_store_own hv (HO.blk i hL) hs hi h1, Result.andThen_ok]
 exact hK _ _ (h _ (own_store HO i hL hs hn))
theorem step_store_own {K : Act → World → Prop} {E : Prop} (HO : Own w0 S L w) (hgd : op.guard = none) (ty : TypeId) (x y : Operand) (ho : op.op = .store ty x y) (i g o : Nat) (t : TypeId) (old vs new : List Value) (hL : L[i]? = some (g, t, old))
 (v : Value) (hx : a.eval x = .pointer (some ⟨g, o, none⟩)) (hy : a.eval y = v) (hv : Fits v vs) (hs : o + vs.length ≤ old.length) (hn : old.take o ++ vs ++ old.drop (o + vs.length) = new)
 (hi : (P.info? ty).map (·.size) = some vs.length) (h1 : vs.all (·.oneCell') = true)
 (h : ∀ w', Own w0 S (L.set i (g, t, new)) w' → K (a.put op.dst undef) w') : if Region.wanted op (yielded ops a.tmps) = true then Oper.wp P op a w K Q else E := by
 have hw : Region.wanted op (yielded ops a.tmps) = true := by simp [Region.wanted, hgd]
 rw [if_pos hw]
 unfold Oper.wp execOp
 simp only [ho, hx, hy, Sem.run_bind, run_store_own hv (HO.blk i hL) hs hi h1, Result.andThen_ok]
 exact h _ (own_store HO i hL hs hn)
theorem own_range (HO : Own w0 S L w) (i : Nat) {g o n : Nat} {t : TypeId} {cs vs : List Value} (hL : L[i]? = some (g, t, cs)) (hv : (cs.drop o).take n = vs) : w.rangeAt g o vs := fun j v hj => by
 subst hv
 rw [HO.cells i hL (o + j)]
 rw [List.getElem?_take] at hj
 split at hj
 ·rwa [List.getElem?_drop] at hj
 ·cases hj
theorem wpList_load_own (HO : Own w0 S L w) (hgd : op.guard = none) (ty : TypeId) (x : Operand) (ho : op.op = .load ty x) (i g o n : Nat) (t : TypeId) (cs vs : List Value) (d : TypeDesc) (hL : L[i]? = some (g, t, cs)) (hv : (cs.drop o).take n = vs)
 (hx : a.eval x = .pointer (some ⟨g, o, none⟩)) (hu : P.underlying ty = some d) (hd : d.isRow = true) (hi : (P.info? ty).map (·.size) = some vs.length)
 (h : wpList P ops Q rest (a.put op.dst (.agg vs.toArray)) w) : wpList P ops Q (op :: rest) a w :=
 wpList_load_mid hgd ty x ho g o hx vs d (own_range HO i hL hv) hu hd hi h
theorem wpList_alloc_own (HO : Own w0 S L w) (hgd : op.guard = none) (t : TypeId) (ho : op.op = .alloc t) (cs : List Value) (hi : (P.info? t).map (·.zero) = some (some (.agg cs.toArray)))
 (h : ∀ w' b, Own w0 S (L ++ [(b, t, cs)]) w' → wpList P ops Q rest (a.put op.dst (.pointer (some ⟨b, 0, none⟩))) w') : wpList P ops Q (op :: rest) a w :=
 wpList_alloc_blk hgd t ho cs.toArray hi fun w' h1 h2 _ => h w' _ (HO.push h1 h2)
theorem wpList_box_own (HO : Own w0 S L w) (hgd : op.guard = none) (t : TypeId) (x : Operand) (ho : op.op = .box t x) (cs : List Value) (hx : a.eval x = .agg cs.toArray)
 (h : ∀ w' b, Own w0 S (L ++ [(b, t, cs)]) w' → wpList P ops Q rest (a.put op.dst (.pointer (some ⟨b, 0, none⟩))) w') : wpList P ops Q (op :: rest) a w :=
 wpList_box_blk hgd t x ho cs.toArray hx fun w' h1 h2 _ => h w' _ (HO.push h1 h2)
/-- A slice literal of one struct. -/
theorem wpList_slice_own (HO : Own w0 S L w) (hgd : op.guard = none) (t e : TypeId) (len : Nat) (parts : Array (Nat × Operand)) (ho : op.op = .buildSlice t len parts) (hu : P.underlying t = some (.slice e)) (cs : List Value)
 (hf : P.builtSlice e len (parts.map fun (i, x) => (i, a.eval x)).toList = some cs.toArray)
 (h : ∀ w' b, Own w0 S (L ++ [(b, e, cs)]) w' → wpList P ops Q rest (a.put op.dst (.slice (some ⟨b, 0, none⟩) len len)) w') : wpList P ops Q (op :: rest) a w :=
 Go.Great.wpList_buildSliceTo hgd t e len parts ho w.heap.size rfl op.dst rfl hu cs.toArray hf (h _ _ (HO.push (Blk.new w e cs.toArray) ((Below.refl _ _).alloc (Nat.le_refl _) _)))
theorem splice_all {old vs : List Value} (h : old.length = vs.length) : old.take 0 ++ vs ++ old.drop (0 + vs.length) = vs := by
 rw [List.take_zero, List.nil_append, List.drop_eq_nil_of_le (by omega), List.append_nil]
theorem take_all {cs : List Value} {n : Nat} (h : cs.length = n) : (cs.drop 0).take n = cs := by rw [List.drop_zero, List.take_of_length_le (by omega)]
theorem yieldsIf_load {SS : World → Prop} (hw : Region.wanted op (yielded ops a.tmps) = true) (ty : TypeId) (x : Operand) (ho : op.op = .load ty x) (g o n : Nat) (t : TypeId) (cs vs : List Value) (d : TypeDesc)
 (hS : ∀ w, SS w → ∀ j, w.cell? ⟨g, j, none⟩ = cs[j]?) (hv : (cs.drop o).take n = vs) (hx : a.eval x = .pointer (some ⟨g, o, none⟩)) (hu : P.underlying ty = some d) (hd : d.isRow = true) (hi : (P.info? ty).map (·.size) = some vs.length) : YieldsIf P ops SS op (.agg vs.toArray) a :=
 yieldsIf_load_mid hw ty x ho g o hx vs d (fun w hw j v hj => by
  subst hv
  rw [hS w hw (o + j)]
  rw [List.getElem?_take] at hj
  split at hj
  ·rwa [List.getElem?_drop] at hj
  ·cases hj) hu hd hi
end
end
section
open Go.RowKit
theorem at_load (ty : TypeId) (x : Operand) {P : Program} {w : World} {ops : Array Oper} {rest : List Oper} {d : Option Tmp} {t : TypeId} {p : String} {af : Array Edge} {g : Option (Nat × Bool)} {a : Act} {Q : Exit → Act → World → Prop}
 (h : wpList P ops Q ({ dst := d, op := .load ty x, type := t, pos := p, after := af, guard := g } :: rest) a w) : wpList P ops Q ({ dst := d, op := .load ty x, type := t, pos := p, after := af, guard := g } :: rest) a w := h
theorem at_store (ty : TypeId) (x : Operand) {y : Operand} {P : Program} {w : World} {ops : Array Oper} {rest : List Oper} {d : Option Tmp} {t : TypeId} {p : String} {af : Array Edge} {g : Option (Nat × Bool)} {a : Act} {Q : Exit → Act → World → Prop}
 (h : wpList P ops Q ({ dst := d, op := .store ty x y, type := t, pos := p, after := af, guard := g } :: rest) a w) : wpList P ops Q ({ dst := d, op := .store ty x y, type := t, pos := p, after := af, guard := g } :: rest) a w := h
theorem at_build (ty : TypeId) {parts : Array (Nat × Operand)} {P : Program} {w : World} {ops : Array Oper} {rest : List Oper} {d : Option Tmp} {t : TypeId} {p : String} {af : Array Edge} {g : Option (Nat × Bool)} {a : Act} {Q : Exit → Act → World → Prop}
 (h : wpList P ops Q ({ dst := d, op := .build ty parts, type := t, pos := p, after := af, guard := g } :: rest) a w) : wpList P ops Q ({ dst := d, op := .build ty parts, type := t, pos := p, after := af, guard := g } :: rest) a w := h
theorem at_alloc (ty : TypeId) {P : Program} {w : World} {ops : Array Oper} {rest : List Oper} {d : Option Tmp} {t : TypeId} {p : String} {af : Array Edge} {g : Option (Nat × Bool)} {a : Act} {Q : Exit → Act → World → Prop}
 (h : wpList P ops Q ({ dst := d, op := .alloc ty, type := t, pos := p, after := af, guard := g } :: rest) a w) : wpList P ops Q ({ dst := d, op := .alloc ty, type := t, pos := p, after := af, guard := g } :: rest) a w := h
theorem at_box (ty : TypeId) (x : Operand) {P : Program} {w : World} {ops : Array Oper} {rest : List Oper} {d : Option Tmp} {t : TypeId} {p : String} {af : Array Edge} {g : Option (Nat × Bool)} {a : Act} {Q : Exit → Act → World → Prop}
 (h : wpList P ops Q ({ dst := d, op := .box ty x, type := t, pos := p, after := af, guard := g } :: rest) a w) : wpList P ops Q ({ dst := d, op := .box ty x, type := t, pos := p, after := af, guard := g } :: rest) a w := h
end
section
open Go.ChangeShapes Go.WideShapes Go.ChangeAt Go.RowKit
end
section
open Go.ChangeShapes Go.WideShapes Go.ChangeAt Go.RowKit
section
variable {P : Program} {w w0 W : World} {S : List Nat} {L M : List (Nat × TypeId × List Value)} {ops : Array Oper} {rest : List Oper} {op : Oper} {a : Act} {Q : Exit → Act → World → Prop} {K : Act → World → Prop} {E : Prop}
theorem Own.sub (h : Own w0 S L W) (hs : M.Sublist L) : Own w0 S M W := ⟨fun e he => h.has e (hs.mem he), h.apart.sublist (hs.map _), h.touch, h.old⟩
theorem wpList_store_own_t (HO : Own w0 S L w) (hgd : op.guard = none) (ty : TypeId) (x y : Operand) (ho : op.op = .store ty x y) (i g o : Nat) (t : TypeId) (old vs new : List Value) (hL : L[i]? = some (g, t, old))
 (v : Value) (hx : a.eval x = .pointer (some ⟨g, o, none⟩)) (hy : a.eval y = v) (hv : Fits v vs) (hs : o + vs.length ≤ old.length) (hn : old.take o ++ vs ++ old.drop (o + vs.length) = new)
 (hi : (P.info? ty).map (·.size) = some vs.length) (h1 : vs.all (·.oneCell') = true)
 (h : ∀ w', Own w0 S (L.set i (g, t, new)) w' → Blk w g t old.toArray → Touch [g] w w' → wpList P ops Q rest (a.put op.dst undef) w') : wpList P ops Q (op :: rest) a w := wpList_plain hgd fun K hK => by
 unfold Oper.wp execOp
 simp only [ho, hx, hy, Sem.run_bind, run_store_own hv (HO.blk i hL) hs hi h1, Result.andThen_ok]
 exact hK _ _ (h _ (own_store HO i hL hs hn) (HO.blk i hL) (touch_setCells w g o _).1)
end
end
end Go.Proofs.Ytpbgelhjbfckcaa
