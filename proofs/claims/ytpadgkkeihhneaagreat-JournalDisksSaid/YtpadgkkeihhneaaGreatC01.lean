/- Shared ground of this seat's proofs: from a walk to the law's statement; facts on blocks of memory; slices of integers that came in. -/
import Derived.Test.YtpadgkkeihhneaaGreatRows
import Derived.WalkKit
import Derived.ProofKit
import Derived.OpenShut
import Derived.Handy
import Derived.Deep.SlicePairs
import Derived.Deep.Draws
import Derived.Maps.AppendAt
import Derived.Deep.AppendLies
import Derived.Laws.BytesArg
import Derived.Deep.MidRow
import Derived.Laws.MakeOwn
import Derived.Deep.Upon
import Derived.Lib.EndianMore
import Derived.Deep.AppendSrc
import Derived.Lib.AppendZerosOnto
namespace Go.Proofs.YtpadgkkeihhneaaGreat
set_option maxRecDepth 100000
set_option linter.unusedSimpArgs false
set_option linter.unusedVariables false
section
open Go.ChangeShapes Go.WideShapes Go.ChangeAt Go.RowKit
/-! ### From a walk to the statement -/
theorem own_knob : ownKnob Tryz.prog.godebug = none := by kernel_rfl
theorem laid_out : laidOutB Tryz.prog = true := by kernel_rfl
theorem args_again {H : Type} {enc : TypeId × Value → H} {P : Program} {W W' : World} (hl : laidOutB P = true) (hb : Below W.heap.size W W') :
 ∀ {ts : List TypeId} {vs : List Value} {ds : List (DataW H)} {ps : List MemPlace}, (∀ t ∈ ts, P.readableRec t = true ∧ t < P.types.size) → DataW.TrodAll enc P W 0 (fun _ => true) true ts vs ds ps →
  (∀ x ∈ ps, x.block < W.heap.size) → DataW.TrodAll enc P W' 0 (fun b => decide (b < W.heap.size)) true ts vs ds ps
 | [], [], [], _, _, h, _ => h
 | t :: ts, v :: vs, d :: ds, ps, hr, h, hlt => by
  obtain ⟨p, q, h1, h2, rfl⟩ := h
  exact ⟨p, q, Below.trod hl (hr t (by simp)).1 (hr t (by simp)).2 h1 hb (fun x hx => hlt x (by simp [hx])),
   args_again hl hb (fun t' ht' => hr t' (by simp [ht'])) h2 (fun x hx => hlt x (by simp [hx])), rfl⟩
 | [], _ :: _, _, _, _, h, _ => by cases h
 | [], [], _ :: _, _, _, h, _ => by cases h
 | _ :: _, [], _, _, _, h, _ => by cases h
 | _ :: _, _ :: _, [], _, _, h, _ => by cases h
theorem args_length {H : Type} {enc : TypeId × Value → H} {P : Program} {W : World} : ∀ {ts : List TypeId} {vs : List Value} {ds : List (DataW H)} {ps : List MemPlace}, DataW.TrodAll enc P W 0 (fun _ => true) true ts vs ds ps → ds.length = ts.length
 | [], vs, ds, ps, h => by obtain ⟨_, rfl, _⟩ := trodAll_nil h; rfl
 | t :: ts, vs, ds, ps, h => by
  obtain ⟨v, vs', d, ds', p', q', _, rfl, _, _, hA'⟩ := trodAll_cons h
  simp [args_length hA']
/-- A call that answers true and leaves what was there as it was meets a law's statement. -/
theorem law_contract {H : Type} {enc : TypeId × Value → H} {P : Program} {fn : Func} {s : ChangeSpec} {tb : TypeId} {f : FuncId} {W : World} {args : Array Value} {ds gs : List (DataW H)} {before : List MemPlace}
 (hl : laidOutB P = true) (hpar : ∀ t ∈ fn.params.toList, P.readableRec t = true ∧ t < P.types.size) (hres : fn.resultTypes = #[tb]) (htb : P.underlying tb = some .bool) (hv : s.vars = [])
 (hspec : ∀ xs : List (DataW H), xs.length = fn.params.toList.length → s.fn H (xs ++ []) = { results := [.lit (.bool true)], args := xs })
 (hW : DataW.Whole enc P fn.params.toList s.vars false W args.toList ds gs before)
 (hwalk : Calls P f args W fun e W' => e = .returned (.bool true) ∧ Below W.heap.size W W') :
 Calls P f args W fun e W' => ∃ v, e = .returned v ∧ s.post enc P fn false true false false W args v W' := by
 refine hwalk.mono fun e W' ⟨he, hb⟩ => ⟨.bool true, he, ?_⟩
 have hlt := hW.lt
 have hW' := hW
 obtain ⟨p, q, hA, hV, rfl, hfz, hnd⟩ := hW
 rw [hv] at hV
 obtain ⟨rfl, rfl⟩ := trodVars_none hV
 have hlen := args_length hA
 have hs := hspec ds hlen
 refine ⟨ds, [], _, [], p, [], hW', ?_, ?_, ?_, ?_, fun h => by cases h⟩
 ·rw [hs, hres]
  exact ⟨[], [], shut_bool htb true, rfl, rfl⟩
 ·rw [hs]
  exact args_again hl hb hpar hA (fun x hx => hlt x (by simpa using hx))
 ·rw [hs, hv]
  rfl
 ·exact World.keptBut_mono (fun p hp => ⟨hp, by simpa using hp⟩) (hb.frame (· ∈ _))
/-! ### Facts kept from the walk -/
theorem hide {p : Prop} (h : p) : Hid p := h
/-! ### Blocks -/
theorem grown_refl (w : World) (row : Option Nat) : w.grownBy w row := ⟨rfl, rfl, rfl, Nat.le_refl _, fun _ _ _ => rfl⟩
theorem grown_set {a w : World} {g : Nat} (h : a.grownBy w (some g)) (o : Nat) (v : Value) : a.grownBy (w.setCell ⟨g, o, none⟩ v) (some g) :=
 ⟨h.os, h.tape, h.output, by simpa [World.setCell] using h.size, fun k hk hne => (Below.heap_setCell _ _ _ _ (fun e => hne (by rw [e]))).trans (h.block k hk hne)⟩
theorem grown_alloc {a w : World} {row : Option Nat} (h : a.grownBy w row) (o : Obj) : a.grownBy (w.alloc o) row :=
 ⟨h.os, h.tape, h.output, Nat.le_trans h.size (by simp), fun k hk hne => (Below.heap_alloc _ _ _ (Nat.lt_of_lt_of_le hk h.size)).trans (h.block k hk hne)⟩
theorem grown_drew {a w : World} {row : Option Nat} (h : a.grownBy w row) : a.grownBy w.drew row := ⟨h.os, h.tape, h.output, h.size, h.block⟩
theorem grown_trans {a b c : World} {row : Option Nat} (h : a.grownBy b row) (k : b.grownBy c row) : a.grownBy c row :=
 ⟨k.os.trans h.os, k.tape.trans h.tape, k.output.trans h.output, Nat.le_trans h.size k.size, fun i hi hne => (k.block i (Nat.lt_of_lt_of_le hi h.size) hne).trans (h.block i hi hne)⟩
theorem grown_of_below {a w : World} (h : Below a.heap.size a w) (row : Option Nat) : a.grownBy w row := ⟨h.os, h.tape, h.output, h.size, fun i hi _ => h.block i hi⟩
theorem below_of_grown {a w : World} (h : a.grownBy w none) : Below a.heap.size a w := ⟨h.os, h.tape, h.output, h.size, fun i hi => h.block i hi (by simp)⟩
theorem below_grown {B : Nat} {a b c : World} {g : Nat} (h : Below B a b) (k : b.grownBy c (some g)) (hB : B ≤ b.heap.size) (hg : B ≤ g) : Below B a c := h.grown k hB (by rintro _ ⟨⟩; exact hg)
theorem below_drewN {B : Nat} {a w : World} (h : Below B a w) (n : Nat) : Below B a (w.drewN n) := ⟨h.os, h.tape, h.output, h.size, h.block⟩
/-- Block g is just the cells cs of element type t; none is frozen. -/
def Blk (w : World) (g : Nat) (t : TypeId) (cs : Array Value) : Prop := w.heap[g]? = some (.cells cs t (0, 0))
section
variable {w w' : World} {g : Nat} {t : TypeId} {cs : Array Value}
theorem Blk.lt (h : Blk w g t cs) : g < w.heap.size := by
 rcases Nat.lt_or_ge g w.heap.size with hlt | hge
 ·exact hlt
 ·unfold Blk at h; rw [Array.getElem?_eq_none hge] at h; cases h
theorem Blk.cell (h : Blk w g t cs) (i : Nat) : w.cell? ⟨g, i, none⟩ = cs[i]? := by unfold Blk at h; simp [World.cell?, h]
theorem Blk.froz (h : Blk w g t cs) (i : Nat) : w.frozen? ⟨g, i, none⟩ = false := by unfold Blk at h; simp [World.frozen?, h]
theorem Blk.new (w : World) (t : TypeId) (cs : Array Value) : Blk (w.alloc (.cells cs t)) w.heap.size t cs := heap_alloc_new w _
theorem Blk.alloc (h : Blk w g t cs) (o : Obj) : Blk (w.alloc o) g t cs := (Below.heap_alloc w o g h.lt).trans h
theorem Blk.drew (h : Blk w g t cs) : Blk w.drew g t cs := h
theorem Blk.drewN (h : Blk w g t cs) (n : Nat) : Blk (w.drewN n) g t cs := h
theorem Blk.put (h : Blk w g t cs) (i : Nat) (u : Value) : Blk (w.setCell ⟨g, i, none⟩ u) g t (cs.setIfInBounds i u) := by
 unfold Blk at h ⊢
 simp [World.setCell, Array.getElem?_modify, h]
theorem Blk.far (h : Blk w g t cs) {p : Addr} (hp : g ≠ p.block) (u : Value) : Blk (w.setCell p u) g t cs := (Below.heap_setCell w p u g hp).trans h
theorem Blk.below {B : Nat} (h : Blk w g t cs) (hb : Below B w w') (hg : g < B) : Blk w' g t cs := (hb.block g hg).trans h
theorem Blk.step (h : Blk w g t cs) (hb : Below w.heap.size w w') : Blk w' g t cs := (hb.block g h.lt).trans h
theorem Blk.grown {row : Option Nat} (h : Blk w g t cs) (hb : w.grownBy w' row) (hg : some g ≠ row) : Blk w' g t cs := (hb.block g h.lt hg).trans h
end
/-! ### A slice of integers that came in -/
/-- The slice v holds the integers l of kind k, in blocks that are there. -/
def IntsIn (w : World) (v : Value) (k : IntKind) (l : List Int) : Prop :=
 ∃ A c, v = .slice A l.length c ∧ l.length ≤ c ∧ c ≤ maxLen ∧ (∀ n ∈ l, (Lit.int k n).wf = true) ∧
  (0 < l.length → ∃ b off, A = some ⟨b, off, none⟩ ∧ b < w.heap.size ∧ ∀ j (h : j < l.length), w.cell? ⟨b, off + j, none⟩ = some (.int k l[j]))
theorem cell_plain {w : World} {a : Addr} {v : Value} (h : w.cell? a = some v) : a = ⟨a.block, a.off, none⟩ ∧ a.block < w.heap.size := by
 refine ⟨?_, World.block_lt_of_cell? w a h⟩
 obtain ⟨b, o, s⟩ := a
 cases s with
 | none => rfl
 | some x =>
  simp only [World.cell?] at h
  split at h <;> simp at h
theorem add_plain (b o i : Nat) : (⟨b, o, none⟩ : Addr).add i = ⟨b, o + i, none⟩ := by unfold Addr.add; split <;> simp_all
theorem IntsIn.len {w : World} {v : Value} {k : IntKind} {l : List Int} (h : IntsIn w v k l) : l.length ≤ maxLen := by
 obtain ⟨_, _, _, h1, h2, _⟩ := h
 omega
end
section
open Go.ChangeShapes Go.WideShapes Go.ChangeAt Go.RowKit
/-- A byte as a number, kept whole by the walk. -/
def u8 (c : UInt8) : Int := (c.toNat : Int)
theorem u8_lt (c : UInt8) : 0 ≤ u8 c ∧ u8 c ≤ 255 := by unfold u8; have := c.toNat_lt; omega
/-- A byte as a value. -/
def bv (c : UInt8) : Value := .int .u8 (u8 c)
theorem bv_one (c : UInt8) : (bv c).oneCell' = true := rfl
/-- The slice v holds the bytes l. -/
def Bs (w : World) (v : Value) (l : List UInt8) : Prop :=
 ∃ A c, v = .slice A l.length c ∧ l.length ≤ c ∧ c ≤ maxLen ∧
  (0 < l.length → ∃ b off, A = some ⟨b, off, none⟩ ∧ b < w.heap.size ∧ ∀ j (h : j < l.length), w.cell? ⟨b, off + j, none⟩ = some (bv l[j]))
/-- The slice v is nil or the call's own (blocks from base on), its array begins with the bytes l. -/
def Ow (w : World) (base : Nat) (v : Value) (l : List UInt8) : Prop := w.ownsRow base 5 1 v l.length (l.map bv)
theorem Bs.nil (w : World) : Bs w (.slice none 0 0) [] := ⟨none, 0, rfl, Nat.le_refl _, by unfold maxLen; omega, fun h => by simp at h⟩
theorem Bs.form {w : World} {v : Value} {l : List UInt8} (h : Bs w v l) : ∃ A c, v = .slice A l.length c ∧ l.length ≤ c ∧ c ≤ 9223372036854775807 := by
 obtain ⟨A, c, hv, h1, h2, _⟩ := h
 exact ⟨A, c, hv, h1, by unfold maxLen at h2; omega⟩
theorem Bs.keep {w w' : World} {v : Value} {l : List UInt8} (h : Bs w v l) (hs : w.heap.size ≤ w'.heap.size) (hc : ∀ p : Addr, p.block < w.heap.size → v.ownBlock = some p.block → w'.cell? p = w.cell? p) : Bs w' v l := by
 obtain ⟨A, c, rfl, h1, h2, h3⟩ := h
 refine ⟨A, c, rfl, h1, h2, fun h0 => ?_⟩
 obtain ⟨b, off, rfl, hb, hcell⟩ := h3 h0
 exact ⟨b, off, rfl, Nat.lt_of_lt_of_le hb hs, fun j hj => (hc ⟨b, off + j, none⟩ hb rfl).trans (hcell j hj)⟩
theorem Bs.step {w w' : World} {v : Value} {l : List UInt8} (h : Bs w v l) (hb : Below w.heap.size w w') : Bs w' v l := h.keep hb.size fun p hp _ => hb.cell hp
theorem Bs.drew {w : World} {v : Value} {l : List UInt8} (h : Bs w v l) : Bs w.drew v l := h
theorem Bs.alloc {w : World} {v : Value} {l : List UInt8} (h : Bs w v l) (o : Obj) : Bs (w.alloc o) v l := h.step ((Below.refl _ _).alloc (Nat.le_refl _) o)
theorem Bs.grown {w w' : World} {v : Value} {l : List UInt8} {row : Option Nat} (h : Bs w v l) (hg : w.grownBy w' row) (hne : v.ownBlock = none ∨ v.ownBlock ≠ row) : Bs w' v l := by
 refine h.keep hg.size fun p hp hv => World.cell?_of_block (hg.block p.block hp ?_)
 rcases hne with hne | hne
 ·rw [hne] at hv; cases hv
 ·rw [hv] at hne; exact hne
theorem Bs.at_ {w : World} {A : Option Addr} {n c : Nat} {l : List UInt8} (h : Bs w (.slice A n c) l) {k : Nat} (hk : k < n) :
 ∃ b off x, A = some ⟨b, off, none⟩ ∧ b < w.heap.size ∧ l[k]? = some x ∧ w.cell? ⟨b, off + k, none⟩ = some (.int .u8 (u8 x)) := by
 obtain ⟨A', c', hv, _, _, hc⟩ := h
 injection hv with e1 e2 e3
 subst e1 e2 e3
 obtain ⟨b, off, rfl, hb, hcell⟩ := hc (by omega)
 exact ⟨b, off, l[k], rfl, hb, List.getElem?_eq_getElem hk, hcell k hk⟩
theorem Bs.len_eq {w : World} {A : Option Addr} {n c : Nat} {l : List UInt8} (h : Bs w (.slice A n c) l) : n = l.length ∧ n ≤ c ∧ c ≤ maxLen := by
 obtain ⟨A', c', hv, h1, h2, _⟩ := h
 injection hv with e1 e2 e3
 subst e1 e2 e3
 exact ⟨rfl, h1, h2⟩
/-- v[:k] -/
theorem Bs.take {w : World} {A : Option Addr} {n c : Nat} {l : List UInt8} (h : Bs w (.slice A n c) l) {k : Nat} (hk : k ≤ n) : Bs w (.slice A k c) (l.take k) := by
 obtain ⟨A', c', hv, h1, h2, hc⟩ := h
 injection hv with e1 e2 e3
 subst e1 e2 e3
 have hl : (l.take k).length = k := by rw [List.length_take]; omega
 refine ⟨A, c, by rw [hl], by omega, h2, fun h0 => ?_⟩
 obtain ⟨b, off, rfl, hb, hcell⟩ := hc (by omega)
 exact ⟨b, off, rfl, hb, fun j hj => by rw [hcell j (by omega)]; simp [List.getElem_take]⟩
/-- v[k:] -/
theorem Bs.drop {w : World} {A : Option Addr} {n c : Nat} {l : List UInt8} (h : Bs w (.slice A n c) l) {k : Nat} (hk : k ≤ n) : Bs w (.slice (if c = k then A else A.map (·.add k)) (n - k) (c - k)) (l.drop k) := by
 obtain ⟨A', c', hv, h1, h2, hc⟩ := h
 injection hv with e1 e2 e3
 subst e1 e2 e3
 have hl : (l.drop k).length = l.length - k := by rw [List.length_drop]
 refine ⟨_, c - k, by rw [hl], by omega, by omega, fun h0 => ?_⟩
 obtain ⟨b, off, rfl, hb, hcell⟩ := hc (by omega)
 rw [if_neg (by omega)]
 refine ⟨b, off + k, by simp [add_plain], hb, fun j hj => ?_⟩
 rw [Nat.add_assoc, hcell (k + j) (by omega)]
 simp
theorem Ow.nil (w : World) (base : Nat) : Ow w base (.slice none 0 0) [] := World.ownsRow_nil w base 5 1
theorem Ow.bs {w : World} {base : Nat} {v : Value} {l : List UInt8} (h : Ow w base v l) : Bs w v l := by
 obtain ⟨hl, ⟨rfl, h0⟩ | ⟨g, cap, cur, rfl, hg, hh, hn, hm, hs, ht⟩⟩ := h
 ·have : l = [] := List.eq_nil_of_length_eq_zero h0
  subst this
  exact Bs.nil w
 ·refine ⟨_, cap, rfl, hn, hm, fun h0 => ⟨g, 0, rfl, (Array.getElem?_eq_some_iff.1 hh).1, fun j hj => ?_⟩⟩
  rw [Nat.zero_add, cell_of_row w g j cur _ _ hh]
  have h1 : (cur.toList.take (l.length * 1))[j]? = (l.map bv)[j]? := by rw [ht]
  rw [List.getElem?_take, if_pos (by omega)] at h1
  rw [Array.getElem?_toList] at h1
  rw [h1]
  simp [hj]
theorem Ow.form {w : World} {base : Nat} {v : Value} {l : List UInt8} (h : Ow w base v l) : ∃ A c, v = .slice A l.length c ∧ l.length ≤ c ∧ c ≤ 9223372036854775807 := h.bs.form
theorem Ow.lt {w : World} {base : Nat} {v : Value} {l : List UInt8} (h : Ow w base v l) : ∀ k, v.ownBlock = some k → base ≤ k ∧ k < w.heap.size := World.ownsRow.lt h
theorem Ow.mono {w : World} {base base' : Nat} {v : Value} {l : List UInt8} (h : Ow w base v l) (hb : base' ≤ base) : Ow w base' v l := by
 obtain ⟨hl, h1 | ⟨g, cap, cur, hv, hg, r⟩⟩ := h
 ·exact ⟨hl, .inl h1⟩
 ·exact ⟨hl, .inr ⟨g, cap, cur, hv, Nat.le_trans hb hg, r⟩⟩
theorem Ow.grown {w w' : World} {base : Nat} {v : Value} {l : List UInt8} {row : Option Nat} (h : Ow w base v l) (hg : w.grownBy w' row) (hne : v.ownBlock = none ∨ v.ownBlock ≠ row) : Ow w' base v l := World.ownsRow.kept h hg hne
theorem Ow.step {w w' : World} {base : Nat} {v : Value} {l : List UInt8} (h : Ow w base v l) (hb : Below w.heap.size w w') : Ow w' base v l :=
 World.ownsRow.kept h (grown_of_below hb none) (by cases v.ownBlock <;> simp)
theorem Ow.alloc {w : World} {base : Nat} {v : Value} {l : List UInt8} (h : Ow w base v l) (o : Obj) : Ow (w.alloc o) base v l := World.ownsRow.alloc h o
theorem Ow.drew {w : World} {base : Nat} {v : Value} {l : List UInt8} (h : Ow w base v l) : Ow w.drew base v l := h
/-- A new array of just these bytes. -/
theorem Ow.made {w : World} {base : Nat} (l : List UInt8) (cs : Array Value) (hcs : cs.toList = l.map bv) (hb : base ≤ w.heap.size) (hl : l.length ≤ maxLen) :
 Ow (w.alloc (.cells cs 5)) base (.slice (some ⟨w.heap.size, 0, none⟩) l.length l.length) l := by
 have hsz : cs.size = l.length := by rw [← Array.length_toList, hcs, List.length_map]
 refine ⟨by simp, .inr ⟨w.heap.size, l.length, cs, rfl, hb, heap_alloc_new w _, Nat.le_refl _, hl, by omega, ?_⟩⟩
 rw [hcs, List.take_of_length_le (by simp)]
/-- A new array of just these bytes, marked or not. -/
theorem Bs.made {w : World} (l : List UInt8) (cs : Array Value) (fr : Nat × Nat) (hcs : cs.toList = l.map bv) (n : Nat) (hn : n = l.length) (hl : l.length ≤ maxLen) :
 Bs (w.alloc (.cells cs 5 fr)) (.slice (some ⟨w.heap.size, 0, none⟩) n n) l := by
 subst hn
 refine ⟨_, _, rfl, Nat.le_refl _, hl, fun h0 => ⟨w.heap.size, 0, rfl, by simp, fun j hj => ?_⟩⟩
 rw [Nat.zero_add, cell_of_row _ w.heap.size j cs 5 fr (heap_alloc_new w _)]
 rw [← Array.getElem?_toList, hcs]
 simp [hj]
/-- A block that is just these bytes, as a slice. -/
theorem Bs.blk {w : World} {g : Nat} {cs : Array Value} {l : List UInt8} (h : Blk w g 5 cs) (hcs : cs.toList = l.map bv) (n : Nat) (hn : n = l.length) (hl : l.length ≤ maxLen) : Bs w (.slice (some ⟨g, 0, none⟩) n n) l := by
 subst hn
 refine ⟨_, _, rfl, Nat.le_refl _, hl, fun h0 => ⟨g, 0, rfl, h.lt, fun j hj => ?_⟩⟩
 rw [Nat.zero_add, h.cell, ← Array.getElem?_toList, hcs]
 simp [hj]
/-- n zero bytes in memory. -/
@[irreducible] def zb (n : Nat) : Array Value := Array.replicate n (bv 0)
theorem zb_list (n : Nat) : (zb n).toList = (List.replicate n (0 : UInt8)).map bv := by unfold zb; simp
theorem zb_made (n : Nat) : madeCells #[.int .u8 0] (n * 1) = zb n := by
 unfold zb madeCells
 apply Array.ext_getElem?
 intro i
 by_cases hi : i < n
 ·simp [hi, bv, u8, Nat.mod_one]
 ·simp [hi]
theorem info_u8 : (Tryz.prog.info? 5).map (fun i => (i.zero, i.size, i.bytes)) = some (some (.int .u8 0), 1, 1) := by kernel_rfl
/-- make([]byte, n) -/
theorem run_make_bytes (n : Nat) (hn : n ≤ 140737488355328) (W : World) : (Instr.makeSlice 35 (.int .i64 (n : Int)) (.int .i64 (n : Int))).run Tryz.prog W = .ok (.slice (some ⟨W.heap.size, 0, none⟩) n n) (W.alloc (.cells (zb n) 5)) := by
 obtain ⟨i0, hi0, hz0, hz1, hz2⟩ := info_parts info_u8
 have h := run_make (P := Tryz.prog) W 35 5 i0 (.int .u8 0) Tryz.underlying35 hi0 hz0 .i64 .i64 (n : Int) (n : Int) (by omega) (by omega) (by rw [hz2]; omega) (by omega)
 rw [hz1] at h
 simp only [Int.toNat_natCast] at h
 rw [show (Value.int IntKind.u8 0).cells = #[.int .u8 0] from rfl, zb_made] at h
 exact h
/-- append(v, x...) onto an own array. -/
theorem run_append_bs {w : World} (base : Nat) (ty : TypeId) {v x : Value} {l m : List UInt8} (hv : Ow w base v l) (hx : Bs w x m) (hlen : l.length + m.length ≤ 140737488355328) (hbase : base ≤ w.heap.size) :
 ∃ v' w', (Builtin.append_ #[35, 35] ty #[v, x]).run Tryz.prog w = .ok v' w' ∧ Ow w' base v' (l ++ m) ∧ w.grownBy w' v.ownBlock ∧ (v'.ownBlock = v.ownBlock ∨ v'.ownBlock = some w.heap.size) := by
 obtain ⟨i0, hi0, hz0, hz1, hz2⟩ := info_parts info_u8
 obtain ⟨A, c, rfl, h1, h2, h3⟩ := hx
 rcases Nat.eq_zero_or_pos m.length with h0 | h0
 ·have hm : m = [] := List.eq_nil_of_length_eq_zero h0
  subst hm
  cases A with
  | none =>
   refine ⟨v, w, ?_, by simpa using hv, grown_refl _ _, .inl rfl⟩
   obtain ⟨_, ⟨rfl, _⟩ | ⟨g, cap, cur, rfl, _, _, hn, _⟩⟩ := hv
   ·simp [Builtin.append_, run_underlying Tryz.underlying35, sizeOf, typeInfo, hi0, Builtin.lenOf, Builtin.firstCells]
   ·simp [Builtin.append_, run_underlying Tryz.underlying35, sizeOf, typeInfo, hi0, Builtin.lenOf, Builtin.firstCells, hn, storeCells]
  | some a =>
   obtain ⟨v', w', h4, h5, h6, _, h7⟩ := run_append_own_at (P := Tryz.prog) w base 35 ty 5 i0 (.int .u8 0) 1 1 Tryz.underlying35 hi0 hz0 hz1 hz2 rfl (by omega) v l.length (l.map bv) hv a 0 c [] rfl (by simp) (by simp) (by unfold maxLen; omega) (by omega) hbase
   exact ⟨v', w', h4, by simpa [Ow] using h5, h6, h7⟩
 ·obtain ⟨b, off, rfl, hb, hcell⟩ := h3 h0
  obtain ⟨v', w', h4, h5, h6, _, h7⟩ := run_append_own_at (P := Tryz.prog) w base 35 ty 5 i0 (.int .u8 0) 1 1 Tryz.underlying35 hi0 hz0 hz1 hz2 rfl (by omega) v l.length (l.map bv) hv ⟨b, off, none⟩ m.length c (m.map bv) (by simp)
   (fun j u hu => by
    have hj : j < m.length := by
     have := (List.getElem?_eq_some_iff.1 hu).1
     simpa using this
    rw [add_plain, hcell j hj]
    rw [List.getElem?_map, List.getElem?_eq_getElem hj] at hu
    exact hu)
   (fun u hu => by obtain ⟨x, _, rfl⟩ := List.mem_map.1 hu; exact bv_one x) (by unfold maxLen; omega) (by omega) hbase
  exact ⟨v', w', h4, by simpa [Ow] using h5, h6, h7⟩
theorem wpList_append_bs {ops : Array Oper} {rest : List Oper} {o : Oper} {a : Act} {w : World} {Q : Exit → Act → World → Prop} (hgd : o.guard = none) (s x : Operand)
 (ho : o.op = .call { callee := .builtin .append, args := #[s, x], argTypes := #[35, 35] }) (base : Nat) {v vx : Value} {l m : List UInt8}
 (hs : a.eval s = v) (hv : Ow w base v l) (hx : a.eval x = vx) (hm : Bs w vx m) (hlen : l.length + m.length ≤ 140737488355328) (hbase : base ≤ w.heap.size)
 (h : ∀ v' w', Ow w' base v' (l ++ m) → w.grownBy w' v.ownBlock → (v'.ownBlock = v.ownBlock ∨ v'.ownBlock = some w.heap.size) → wpList Tryz.prog ops Q rest (a.put o.dst v') w') : wpList Tryz.prog ops Q (o :: rest) a w := by
 refine wpList_plain hgd fun K hK => ?_
 obtain ⟨v', w', h1, h2, h3, h4⟩ := run_append_bs base o.type hv hm hlen hbase
 unfold Oper.wp execOp
 simp only [ho, resolve, invoke, builtin, Sem.run_bind, Sem.run_pure, Result.andThen_ok, List.map_toArray, List.map_cons, List.map_nil, hs, hx, h1]
 exact hK _ _ (h v' w' h2 h3 h4)
/-- string(v) -/
theorem run_string_bs {w : World} {v : Value} {l : List UInt8} (h : Bs w v l) : (convert 35 9 v).run Tryz.prog w = .ok (.string ⟨l.toArray⟩) w := by
 obtain ⟨A, c, rfl, h1, h2, h3⟩ := h
 rcases Nat.eq_zero_or_pos l.length with h0 | h0
 ·have hl : l = [] := List.eq_nil_of_length_eq_zero h0
  subst hl
  cases A with
  | none => exact run_convert_bytes_nil w 35 5 Tryz.underlying35 Tryz.underlying5 0 c 9 Tryz.underlying9
  | some a =>
   have hb := run_bytesToString (P := Tryz.prog) w a 0 c [] (run_loadCells_list (P := Tryz.prog) w a [] (by simp))
   rw [List.length_nil, run_convert_bytes_string w 35 9 5 (some a) 0 c Tryz.underlying35 Tryz.underlying5 Tryz.underlying9, hb]
   rfl
 ·obtain ⟨b, off, rfl, hb, hcell⟩ := h3 h0
  have := run_convert_bytes_arg (P := Tryz.prog) w 35 5 Tryz.underlying35 Tryz.underlying5 b off l.length c (l.map fun x => (x.toNat : Int)) (by simp)
   (fun i hi => by rw [hcell i hi]; simp [bv, u8, List.getD, hi]) 9 Tryz.underlying9
  rw [this]
  have e : ∀ l : List UInt8, strOfNums (l.map fun x => (x.toNat : Int)) = ⟨l.toArray⟩ := fun l => by
   unfold strOfNums
   rw [List.map_map, List.map_congr_left (g := id) (fun x _ => by simp), List.map_id]
  rw [e]
end
section
open Go.ChangeShapes Go.WideShapes Go.ChangeAt Go.RowKit
/-- Of what lay there, at most the blocks of S have turned. -/
structure Touch (S : List Nat) (w w' : World) : Prop where
 os : w'.os = w.os
 tape : w'.tape = w.tape
 output : w'.output = w.output
 size : w.heap.size ≤ w'.heap.size
 block : ∀ k, k < w.heap.size → k ∉ S → w'.heap[k]? = w.heap[k]?
theorem Touch.refl (S : List Nat) (w : World) : Touch S w w := ⟨rfl, rfl, rfl, Nat.le_refl _, fun _ _ _ => rfl⟩
theorem Touch.next {S T : List Nat} {w w1 w2 : World} (h : Touch S w w1) (k : Touch T w1 w2) (hT : ∀ t ∈ T, t ∈ S ∨ w.heap.size ≤ t) : Touch S w w2 := by
 refine ⟨k.os.trans h.os, k.tape.trans h.tape, k.output.trans h.output, Nat.le_trans h.size k.size, fun i hi hne => ?_⟩
 rw [k.block i (Nat.lt_of_lt_of_le hi h.size) ?_, h.block i hi hne]
 intro hm
 rcases hT i hm with h1 | h1
 ·exact hne h1
 ·omega
theorem Touch.trans {S : List Nat} {w w1 w2 : World} (h : Touch S w w1) (k : Touch S w1 w2) : Touch S w w2 := h.next k fun _ ht => .inl ht
theorem Touch.mono {S T : List Nat} {w w' : World} (h : Touch S w w') (hs : ∀ s ∈ S, s ∈ T ∨ w.heap.size ≤ s) : Touch T w w' :=
 (Touch.refl T w).next h hs
theorem Touch.grown {w w' : World} {row : Option Nat} (h : w.grownBy w' row) : Touch row.toList w w' := ⟨h.os, h.tape, h.output, h.size, fun k hk hne => h.block k hk (by intro e; rw [← e] at hne; simp at hne)⟩
theorem Touch.one {w w' : World} {g : Nat} (h : w.grownBy w' (some g)) : Touch [g] w w' := Touch.grown h
theorem Touch.of_one {w w' : World} {g : Nat} (h : Touch [g] w w') : w.grownBy w' (some g) := ⟨h.os, h.tape, h.output, h.size, fun k hk hne => h.block k hk (by intro e; simp at e; exact hne (by rw [e]))⟩
theorem Touch.below {w w' : World} (h : Below w.heap.size w w') (S : List Nat) : Touch S w w' := ⟨h.os, h.tape, h.output, h.size, fun k hk _ => h.block k hk⟩
theorem Touch.to_below {S : List Nat} {w w' : World} {B : Nat} (h : Touch S w w') (hS : ∀ s ∈ S, B ≤ s) (hB : B ≤ w.heap.size) : Below B w w' :=
 ⟨h.os, h.tape, h.output, h.size, fun k hk => h.block k (Nat.lt_of_lt_of_le hk hB) fun hm => by have := hS k hm; omega⟩
theorem Below.touch {S : List Nat} {a w w' : World} {B : Nat} (hb : Below B a w) (h : Touch S w w') (hS : ∀ s ∈ S, B ≤ s) (hB : B ≤ w.heap.size) : Below B a w' := hb.trans (h.to_below hS hB)
theorem Touch.set {S : List Nat} {a w : World} {g : Nat} (h : Touch S a w) (hg : g ∈ S ∨ a.heap.size ≤ g) (o : Nat) (v : Value) : Touch S a (w.setCell ⟨g, o, none⟩ v) :=
 h.next (Touch.one (grown_set (grown_refl w (some g)) o v)) (by intro t ht; simp at ht; subst ht; exact hg)
theorem Touch.alloc {S : List Nat} {a w : World} (h : Touch S a w) (o : Obj) : Touch S a (w.alloc o) :=
 h.next (T := []) (Touch.grown (grown_alloc (grown_refl w none) o)) (by simp)
theorem Touch.drew {S : List Nat} {a w : World} (h : Touch S a w) : Touch S a w.drew := ⟨h.os, h.tape, h.output, h.size, h.block⟩
theorem Touch.drewN {S : List Nat} {a w : World} (h : Touch S a w) (n : Nat) : Touch S a (w.drewN n) := ⟨h.os, h.tape, h.output, h.size, h.block⟩
theorem Touch.step {S : List Nat} {a w w' : World} (h : Touch S a w) (hb : Below w.heap.size w w') : Touch S a w' := h.next (Touch.below hb []) (by simp)
theorem Blk.touch {S : List Nat} {w w' : World} {g : Nat} {t : TypeId} {cs : Array Value} (h : Blk w g t cs) (k : Touch S w w') (hg : g ∉ S) : Blk w' g t cs := (k.block g h.lt hg).trans h
theorem Bs.touch {S : List Nat} {w w' : World} {v : Value} {l : List UInt8} (h : Bs w v l) (k : Touch S w w') (hv : ∀ j, v.ownBlock = some j → j ∉ S) : Bs w' v l :=
 h.keep k.size fun p hp e => World.cell?_of_block (k.block p.block hp (hv _ e))
theorem Bs.empty {w w' : World} {v : Value} (h : Bs w v []) : Bs w' v [] := by
 obtain ⟨A, c, hv, h1, h2, _⟩ := h
 exact ⟨A, c, hv, h1, h2, fun h => absurd h (by simp)⟩
theorem Bs.touchN {S : List Nat} {w w' : World} {v : Value} {l : List UInt8} (h : Bs w v l) (k : Touch S w w') (hv : l ≠ [] → ∀ j, v.ownBlock = some j → j ∉ S) : Bs w' v l := by
 by_cases hl : l = []
 ·subst hl; exact h.empty
 ·exact h.touch k (hv hl)
theorem Ow.touch {S : List Nat} {w w' : World} {base : Nat} {v : Value} {l : List UInt8} (h : Ow w base v l) (k : Touch S w w') (hv : ∀ j, v.ownBlock = some j → j ∉ S) : Ow w' base v l := by
 refine ⟨h.1, ?_⟩
 rcases h.2 with hn | ⟨g, cap, cur, rfl, hb, hgg, rest⟩
 ·exact .inl hn
 ·exact .inr ⟨g, cap, cur, rfl, hb, (k.block g (h.lt g rfl).2 (hv g rfl)).trans hgg, rest⟩
/-- A slice's shape, its length behind a letter. -/
theorem Bs.formN {w : World} {v : Value} {l : List UInt8} (h : Bs w v l) : ∃ A m c, v = .slice A m c ∧ Hid (m = l.length) ∧ m ≤ c ∧ c ≤ 9223372036854775807 := by
 obtain ⟨A, c, hv, h1, h2⟩ := h.form
 exact ⟨A, l.length, c, hv, rfl, h1, h2⟩
theorem Ow.formN {w : World} {base : Nat} {v : Value} {l : List UInt8} (h : Ow w base v l) : ∃ A m c, v = .slice A m c ∧ Hid (m = l.length) ∧ m ≤ c ∧ c ≤ 9223372036854775807 := h.bs.formN
end
section
open Go.ChangeShapes Go.WideShapes Go.ChangeAt Go.RowKit
theorem Blk.setCells {g : Nat} {t : TypeId} : ∀ (vs : List Value) (o : Nat) (w : World) (cs : Array Value), Blk w g t cs → o + vs.length ≤ cs.size →
 Blk (w.setCells g o vs) g t (cs.toList.take o ++ vs ++ cs.toList.drop (o + vs.length)).toArray
 | [], o, w, cs, h, hl => by
  have e : (cs.toList.take o ++ [] ++ cs.toList.drop (o + ([] : List Value).length)).toArray = cs := by simp
  rw [e]; exact h
 | v :: vs, o, w, cs, h, hl => by
  have h2 := Blk.setCells vs (o + 1) (w.setCell ⟨g, o, none⟩ v) _ (h.put o v) (by simp at hl ⊢; omega)
  have e : ((cs.setIfInBounds o v).toList.take (o + 1) ++ vs ++ (cs.setIfInBounds o v).toList.drop (o + 1 + vs.length)).toArray = (cs.toList.take o ++ (v :: vs) ++ cs.toList.drop (o + (v :: vs).length)).toArray := by
   congr 1
   have ho : o < cs.toList.length := by simp at hl ⊢; omega
   rw [Array.toList_setIfInBounds, List.drop_set_of_lt (by omega), List.take_succ_eq_append_getElem (by simpa using ho), List.take_set_of_le (Nat.le_refl _)]
   simp
   rw [show o + 1 + vs.length = o + (vs.length + 1) by omega]
  rw [e] at h2
  exact h2
theorem Blk.stored {w : World} {g : Nat} {t : TypeId} {old new : Array Value} (h : Blk w g t old) (hs : new.size = old.size) : Blk (w.setCells g 0 new.toList) g t new := by
 have h2 := Blk.setCells new.toList 0 w old h (by simp [hs])
 have e : (old.toList.take 0 ++ new.toList ++ old.toList.drop (0 + new.toList.length)).toArray = new := by
  rw [List.drop_eq_nil_of_le (by simp [hs])]
  simp
 rw [e] at h2
 exact h2
theorem Blk.there {w : World} {g : Nat} {t : TypeId} {cs : Array Value} (h : Blk w g t cs) {n : Nat} (hn : n = cs.size) : w.there g 0 n := fun j hj => by
 rw [Nat.zero_add, h.cell j, h.froz j]
 exact ⟨by rw [Array.getElem?_eq_getElem (by omega)]; rfl, rfl⟩
theorem touch_setCells (w : World) (g o : Nat) (vs : List Value) : Touch [g] w (w.setCells g o vs) ∧ (w.setCells g o vs).heap.size = w.heap.size := by
 induction vs generalizing w o with
 | nil => exact ⟨Touch.refl _ _, rfl⟩
 | cons v vs ih =>
  have h := ih (w.setCell ⟨g, o, none⟩ v) (o + 1)
  have k : Touch [g] w (w.setCell ⟨g, o, none⟩ v) := (Touch.refl [g] w).set (by simp) o v
  exact ⟨k.trans h.1, h.2.trans (by simp [World.setCell])⟩
/-- A struct is stored into a block that holds just it: the world behind goes by a name. -/
theorem wpList_store_blk {P : Program} {w : World} {ops : Array Oper} {rest : List Oper} {op : Oper} {a : Act} {Q : Exit → Act → World → Prop} (hgd : op.guard = none) (ty : TypeId) (x y : Operand) (ho : op.op = .store ty x y)
 (g : Nat) (t : TypeId) (old new : Array Value) (hx : a.eval x = .pointer (some ⟨g, 0, none⟩)) (hy : a.eval y = .agg new) (hb : Blk w g t old) (hs : new.size = old.size)
 (hi : (P.info? ty).map (·.size) = some new.size) (h1 : new.all (·.oneCell') = true)
 (h : ∀ w', Blk w' g t new → Touch [g] w w' → w'.heap.size = w.heap.size → wpList P ops Q rest (a.put op.dst undef) w') : wpList P ops Q (op :: rest) a w :=
 wpList_store_mid hgd ty x y ho g 0 new hx hy (hb.there hs) hi h1 (h _ (hb.stored hs) (touch_setCells w g 0 _).1 (touch_setCells w g 0 _).2)
theorem results_row_tmp {P : Program} {fn : Func} {p u : Tmp} {ty : TypeId} (h : fn.results = #[.cell p ty, .tmp u]) (tmps : Array Value) (w : World) (g : Nat) (t : TypeId) (cs : Array Value) (fr : Nat × Nat) (d : TypeDesc) (v : Value)
 (hp : tmps.getD p undef = .pointer (some ⟨g, 0, none⟩)) (hv : tmps.getD u undef = v) (hg : w.heap[g]? = some (.cells cs t fr))
 (hu : P.underlying ty = some d) (hd : (match d with | .struct _ | .array _ _ => true | _ => false) = true) (hi : (P.info? ty).map (·.size) = some cs.size) :
 (results fn tmps).run P w = .ok (.tuple #[.agg cs, v]) w := by
 have hp' : tmps[p]?.getD undef = .pointer (some ⟨g, 0, none⟩) := by simpa using hp
 have hv' : tmps[u]?.getD undef = v := by simpa using hv
 simp [results, h, hp', hv', asAddr, run_loadVar_row w g t ty cs fr d hg hu hd hi]
end
section
open Go.ChangeShapes Go.WideShapes Go.ChangeAt Go.RowKit
/-- A text as a value. -/
def sv (l : List UInt8) : Value := .string ⟨l.toArray⟩
theorem sv_one (l : List UInt8) : (sv l).oneCell' = true := rfl
/-- The slice v reads as the texts l. -/
def Sl (w : World) (v : Value) (l : List (List UInt8)) : Prop :=
 ∃ A c, v = .slice A l.length c ∧ l.length ≤ c ∧ c ≤ maxLen ∧ (0 < l.length → ∃ b off, A = some ⟨b, off, none⟩ ∧ b < w.heap.size ∧ ∀ j (h : j < l.length), w.cell? ⟨b, off + j, none⟩ = some (sv l[j]))
/-- .. and nobody else has the block that it lies in. -/
def Strs (w : World) (v : Value) (l : List (List UInt8)) : Prop :=
 (v = .slice none 0 0 ∧ l = []) ∨ ∃ g off cap cur, v = .slice (some ⟨g, off, none⟩) l.length cap ∧ w.heap[g]? = some (.cells cur 9 (0, 0)) ∧ l.length ≤ cap ∧ cap ≤ maxLen ∧ off + cap ≤ cur.size ∧ (cur.toList.drop off).take l.length = l.map sv
theorem Sl.nil (w : World) : Sl w (.slice none 0 0) [] := ⟨none, 0, rfl, Nat.le_refl _, by unfold maxLen; omega, fun h => by simp at h⟩
theorem Strs.nil (w : World) : Strs w (.slice none 0 0) [] := .inl ⟨rfl, rfl⟩
theorem Strs.sl {w : World} {v : Value} {l : List (List UInt8)} (h : Strs w v l) : Sl w v l := by
 rcases h with ⟨rfl, rfl⟩ | ⟨g, off, cap, cur, rfl, hg, h1, h2, h3, h4⟩
 ·exact Sl.nil w
 ·refine ⟨_, cap, rfl, h1, h2, fun h0 => ⟨g, off, rfl, (Array.getElem?_eq_some_iff.1 hg).1, fun j hj => ?_⟩⟩
  rw [cell_of_row w g (off + j) cur _ _ hg]
  have : ((cur.toList.drop off).take l.length)[j]? = (l.map sv)[j]? := by rw [h4]
  rw [List.getElem?_take, if_pos hj, List.getElem?_drop, Array.getElem?_toList] at this
  rw [this]
  simp [hj]
theorem Sl.touch {S : List Nat} {w w' : World} {v : Value} {l : List (List UInt8)} (h : Sl w v l) (k : Touch S w w') (hv : l ≠ [] → ∀ j, v.ownBlock = some j → j ∉ S) : Sl w' v l := by
 obtain ⟨A, c, rfl, h1, h2, h3⟩ := h
 refine ⟨A, c, rfl, h1, h2, fun h0 => ?_⟩
 obtain ⟨b, off, rfl, hb, hc⟩ := h3 h0
 have hk := k.block b hb (hv (by rintro rfl; simp at h0) b rfl)
 exact ⟨b, off, rfl, Nat.lt_of_lt_of_le hb k.size, fun j hj => (World.cell?_of_block hk).trans (hc j hj)⟩
theorem Sl.step {w w' : World} {v : Value} {l : List (List UInt8)} (h : Sl w v l) (hb : Below w.heap.size w w') : Sl w' v l := h.touch (Touch.below hb []) (by simp)
theorem Strs.touch {S : List Nat} {w w' : World} {v : Value} {l : List (List UInt8)} (h : Strs w v l) (k : Touch S w w') (hv : ∀ j, v.ownBlock = some j → j ∉ S) : Strs w' v l := by
 rcases h with h | ⟨g, off, cap, cur, rfl, hg, r⟩
 ·exact .inl h
 ·exact .inr ⟨g, off, cap, cur, rfl, (k.block g (Array.getElem?_eq_some_iff.1 hg).1 (hv g rfl)).trans hg, r⟩
theorem Strs.step {w w' : World} {v : Value} {l : List (List UInt8)} (h : Strs w v l) (hb : Below w.heap.size w w') : Strs w' v l := h.touch (Touch.below hb []) (by simp)
theorem Strs.lt {w : World} {v : Value} {l : List (List UInt8)} (h : Strs w v l) : ∀ j, v.ownBlock = some j → j < w.heap.size := by
 rcases h with ⟨rfl, _⟩ | ⟨g, off, cap, cur, rfl, hg, r⟩
 ·intro j hj; cases hj
 ·intro j hj; injection hj with hj; subst hj; exact (Array.getElem?_eq_some_iff.1 hg).1
theorem Sl.formN {w : World} {v : Value} {l : List (List UInt8)} (h : Sl w v l) : ∃ A m c, v = .slice A m c ∧ Hid (m = l.length) ∧ m ≤ c ∧ c ≤ 9223372036854775807 := by
 obtain ⟨A, c, hv, h1, h2, _⟩ := h
 exact ⟨A, _, c, hv, rfl, h1, by unfold maxLen at h2; omega⟩
theorem Strs.formN {w : World} {v : Value} {l : List (List UInt8)} (h : Strs w v l) : ∃ A m c, v = .slice A m c ∧ Hid (m = l.length) ∧ m ≤ c ∧ c ≤ 9223372036854775807 := h.sl.formN
theorem Sl.at_ {w : World} {A : Option Addr} {n c : Nat} {l : List (List UInt8)} (h : Sl w (.slice A n c) l) (j : Nat) (hj : j < l.length) : ∃ b off, A = some ⟨b, off, none⟩ ∧ b < w.heap.size ∧ w.cell? ⟨b, off + j, none⟩ = some (sv (l.getD j [])) := by
 obtain ⟨A', c', hv, h1, h2, h3⟩ := h
 injection hv with e1 e2 e3
 subst e1 e2 e3
 obtain ⟨b, off, rfl, hb, hc⟩ := h3 (by omega)
 refine ⟨b, off, rfl, hb, ?_⟩
 rw [hc j hj]
 simp [List.getD, hj]
theorem info_str : (Tryz.prog.info? 9).map (fun i => (i.zero, i.size, i.bytes)) = some (some (.string ⟨#[]⟩), 1, 16) := by kernel_rfl
/-- l[1:] -/
theorem Strs.tail {w : World} {A : Option Addr} {n c : Nat} {x : List UInt8} {l : List (List UInt8)} (h : Strs w (.slice A n c) (x :: l)) : Strs w (.slice (if c = 1 then A else A.map (·.add 1)) (n - 1) (c - 1)) l := by
 rcases h with ⟨_, h⟩ | ⟨g, off, cap, cur, hv, hg, h1, h2, h3, h4⟩
 ·cases h
 ·injection hv with e1 e2 e3
  subst e1 e2 e3
  rw [List.length_cons] at h1 h4
  by_cases h0 : c = 1
  ·have hl : l = [] := List.eq_nil_of_length_eq_zero (by omega)
   subst hl
   rw [if_pos h0]
   exact .inr ⟨g, off, c - 1, cur, by simp, hg, by simp, by omega, by omega, by simp⟩
  ·rw [if_neg h0]
   refine .inr ⟨g, off + 1, c - 1, cur, by simp [add_plain], hg, by omega, by omega, by omega, ?_⟩
   have := congrArg (List.drop 1) h4
   rw [List.drop_take, List.drop_drop] at this
   simpa using this
theorem take_all2 {α : Type} {n : Nat} (l r : List α) (h : n = l.length) : (l ++ r).take n = l := by rw [h, List.take_left]
/-- append(v, x) onto an own slice. -/
theorem run_append_strs {w : World} (ty : TypeId) {v : Value} {l : List (List UInt8)} (hv : Strs w v l) (g c : Nat) (s : List UInt8) (hx : w.cell? ⟨g, 0, none⟩ = some (sv s)) (hlen : l.length ≤ 1000000) :
 ∃ v' w', (Builtin.append_ #[49, 49] ty #[v, .slice (some ⟨g, 0, none⟩) 1 c]).run Tryz.prog w = .ok v' w' ∧ Strs w' v' (l ++ [s]) ∧ w.grownBy w' v.ownBlock ∧ (v'.ownBlock = v.ownBlock ∨ v'.ownBlock = some w.heap.size) := by
 obtain ⟨i0, hi0, hz0, hz1, hz2⟩ := info_parts info_str
 have hnews : ∀ j u, [sv s][j]? = some u → w.cell? ((⟨g, 0, none⟩ : Addr).add j) = some u := by
  intro j u hj
  cases j with
  | zero => simp at hj; subst hj; rw [add_plain]; exact hx
  | succ j => simp at hj
 have hb0 : ∀ n, n ≤ 4000100 → n * i0.bytes ≤ 281474976710656 := fun n hn => by rw [hz2]; omega
 rcases hv with ⟨rfl, rfl⟩ | ⟨b, off, cap, cur, rfl, hg, h1, h2, h3, h4⟩
 ·refine ⟨_, _, run_append_nil (P := Tryz.prog) w 49 ty 9 i0 _ Tryz.underlying49 hi0 hz0 ⟨g, 0, none⟩ 1 c [sv s] (by rw [hz1]; rfl) hnews (by omega) (by omega) (hb0 1 (by omega)), ?_, grown_alloc (grown_drew (grown_refl _ _)) _, .inr rfl⟩
  have hle : 1 ≤ grownCap w 1 0 9 := grownCap_ge w 1 0 _
  refine .inr ⟨w.heap.size, 0, _, _, rfl, heap_alloc_new w.drew _, by simpa using hle, grownCap_le_maxLen w 1 0 _ (by unfold maxLen; omega), ?_, by simp⟩
  simp [size_zeroCells, Value.cells]; omega
 ·by_cases hroom : l.length + 1 ≤ cap
  ·have hc0 : ∀ j, j < [sv s].length → (w.cell? ⟨b, off + l.length * i0.size + j, none⟩).isSome = true := fun j hj => by
    simp at hj; subst hj
    rw [hz1, cell_of_row w b _ cur _ _ hg, Array.getElem?_eq_getElem (by omega)]; rfl
   have hr := run_append_room_src (P := Tryz.prog) w 49 49 ty 9 i0 Tryz.underlying49 hi0 b off l.length cap _ 1 [sv s]
    (Src.ofSlice (P := Tryz.prog) w Tryz.underlying49 ⟨g, 0, none⟩ 1 c [sv s] (by rw [hz1]; rfl) hnews (by simp [sv_one])) hroom hc0 (fun j hj => by simp [World.frozen?, hg])
   have hB : Blk w b 9 cur := hg
   have hB2 := Blk.setCells [sv s] (off + l.length * i0.size) w cur hB (by rw [hz1]; simp; omega)
   refine ⟨_, _, hr, .inr ⟨b, off, cap, _, by simp, hB2, by simpa using hroom, h2, ?_, ?_⟩, ?_, .inl rfl⟩
   ·rw [hz1]; simp; omega
   ·rw [hz1, Nat.mul_one, List.drop_append_of_le_length (by simp; omega), List.drop_append_of_le_length (by simp; omega), List.drop_take]
    rw [show off + l.length - off = l.length by omega, h4]
    rw [List.length_append, List.take_append_of_le_length (by simp)]
    rw [List.take_of_length_le (by simp)]
    simp
   ·exact (touch_setCells w b _ [sv s]).1.of_one
  ·have holds : ∀ j u, (l.map sv)[j]? = some u → w.cell? ((⟨b, off, none⟩ : Addr).add j) = some u := fun j u hj => by
    rw [add_plain, cell_of_row w b (off + j) cur _ _ hg, ← h4] at *
    rw [List.getElem?_take] at hj
    split at hj
    ·rw [List.getElem?_drop, Array.getElem?_toList] at hj; exact hj
    ·cases hj
   have hle : l.length + 1 ≤ grownCap w (l.length + 1) cap 9 := grownCap_ge w _ cap _
   refine ⟨_, _, run_append_grow (P := Tryz.prog) w 49 ty 9 i0 _ Tryz.underlying49 hi0 hz0 ⟨b, off, none⟩ l.length cap (l.map sv) (by rw [hz1]; simp) holds ⟨g, 0, none⟩ 1 c [sv s] (by rw [hz1]; rfl) hnews (by omega) (by omega)
    (growslice_fits (by omega) (by rw [hz2]; omega)), ?_, grown_alloc (grown_drew (grown_refl _ _)) _, .inr rfl⟩
   refine .inr ⟨w.heap.size, 0, grownCap w (l.length + 1) cap 9, _, by simp, heap_alloc_new w.drew _, by simpa using hle, grownCap_le_maxLen w _ cap _ (by unfold maxLen; omega), ?_, ?_⟩
   ·simp [size_zeroCells, Value.cells]; omega
   ·rw [List.drop_zero]
    simp only [List.length_append, List.length_cons, List.length_nil, Array.toList_append, List.map_append, List.map_cons, List.map_nil, Nat.zero_add, List.append_toArray]
    exact take_all2 _ _ (by simp)
end
section
open Go.ChangeShapes Go.WideShapes Go.ChangeAt Go.RowKit
theorem zeroCells_u8 (k : Nat) : Builtin.zeroCells (Value.int .u8 0).cells k = ((List.replicate k (0 : UInt8)).map bv).toArray := by
 unfold Builtin.zeroCells
 apply Array.ext'
 simp [Value.cells, bv, u8, List.map_const', List.eq_replicate_iff]
 intro a _
 rw [Nat.mod_one]; rfl
theorem run_append_zeros {w : World} (base : Nat) (ty : TypeId) {v : Value} {l : List UInt8} (hv : Ow w base v l) (hne : l ≠ []) (k : Nat) (h0 : 0 < k) (hk : l.length + k ≤ 1000) (hbase : base ≤ w.heap.size) :
 ∃ v' w', (Builtin.append_ #[35, 3] ty #[v, .int .i64 k]).run Tryz.prog w = .ok v' w' ∧ Ow w' base v' (l ++ List.replicate k 0) ∧ w.grownBy w' v.ownBlock ∧ (v'.ownBlock = v.ownBlock ∨ v'.ownBlock = some w.heap.size) := by
 obtain ⟨i0, hi0, hz0, hz1, hz2⟩ := info_parts info_u8
 have hv0 := hv
 obtain ⟨hl, ⟨rfl, h00⟩ | ⟨g, cap, cur, rfl, hg, hh, hn, hm, hs, ht⟩⟩ := hv
 ·exact absurd (List.eq_nil_of_length_eq_zero h00) hne
 ·rw [Nat.mul_one] at hs ht
  have hone : ∀ u ∈ (List.replicate k (0 : UInt8)).map bv, u.oneCell' = true := fun u hu => by obtain ⟨x, _, rfl⟩ := List.mem_map.1 hu; exact bv_one x
  have hk0 : k ≠ 0 := by omega
  have hw : IntKind.i64.wrap (k : Int) = k := by rw [IntKind.wrap_i64]; omega
  have hneg : ¬ ((k : Int) < 0) := by omega
  by_cases hroom : l.length + k ≤ cap
  ·have hc : ∀ j, j < ((List.replicate k (0 : UInt8)).map bv).length → (w.cell? ⟨g, l.length + 0 + j, none⟩).isSome = true := fun j hj => by
    simp at hj
    rw [cell_of_row w g _ cur _ _ hh, Array.getElem?_eq_getElem (by omega)]; rfl
   have hst := run_storeCells_cells (P := Tryz.prog) g l.length ((List.replicate k (0 : UInt8)).map bv) 0 w hc (fun j hj => by simp [World.frozen?, hh]) hone
   simp only [Nat.add_zero] at hst
   have h48i : ¬ (281474976710656 < (k : Int) * (i0.bytes : Int)) := by rw [hz2]; omega
   have hzc := zeroCells_u8 k
   have hr : (Builtin.append_ #[35, 3] ty #[.slice (some ⟨g, 0, none⟩) l.length cap, .int .i64 k]).run Tryz.prog w = .ok (.slice (some ⟨g, 0, none⟩) (l.length + k) cap) (w.setCells g l.length ((List.replicate k (0 : UInt8)).map bv)) := by
    simp [Builtin.append_, run_underlying Tryz.underlying35, run_underlying Tryz.underlying3, sizeOf, typeInfo, zeroValue, hi0, hz0, hz1, asInt, asIntOf, hw, hneg, hk0, h48i, hroom, Addr.add_lit, hzc]
    rw [List.map_replicate] at hst
    rw [hst]; rfl
   have hB : Blk w g 5 cur := hh
   have hB2 := Blk.setCells ((List.replicate k (0 : UInt8)).map bv) l.length w cur hB (by simp; omega)
   refine ⟨_, _, hr, ⟨by simp, .inr ⟨g, cap, _, by simp, hg, hB2, by simpa using hroom, hm, ?_, ?_⟩⟩, (touch_setCells w g _ _).1.of_one, .inl rfl⟩
   ·simp; omega
   ·rw [Nat.mul_one, ht, show (l ++ List.replicate k (0 : UInt8)).length = (l.map bv ++ (List.replicate k (0 : UInt8)).map bv).length by simp]
    show List.take _ (l.map bv ++ (List.replicate k (0 : UInt8)).map bv ++ _) = _
    rw [List.take_append_of_le_length (Nat.le_refl _), List.take_of_length_le (Nat.le_refl _)]
    simp
  ·obtain ⟨hfc⟩ : Nonempty ((Builtin.firstCells i0.size l.length (.slice (some ⟨g, 0, none⟩) l.length cap)).run Tryz.prog w.drew = .ok (l.map bv).toArray w.drew) :=
    ⟨run_firstCells_some w.drew i0.size l.length ⟨g, 0, none⟩ l.length cap (l.map bv) (by simp [hz1]) (by simpa using World.ownsRow.cells hv0 (g := g) rfl)⟩
   have hr := Lib.run_append_grow_zeros (P := Tryz.prog) w 35 3 ty 5 i0 (.int .u8 0) .i64 .i64 Tryz.underlying35 Tryz.underlying3 hi0 hz0 (some ⟨g, 0, none⟩) l.length cap (l.map bv) hfc k h0 (by omega) (by omega) (by omega) (by rw [hz2]; omega)
    (growslice_fits (by omega) (by rw [hz2]; omega))
   have hle : l.length + k ≤ grownCap w (l.length + k) cap 5 := grownCap_ge w _ cap _
   refine ⟨_, _, hr, ⟨by simp, .inr ⟨w.heap.size, _, _, by simp, by omega, heap_alloc_new w.drew _, by simpa using hle, grownCap_le_maxLen w (l.length + k) cap 5 (by unfold maxLen; omega), ?_, ?_⟩⟩, grown_alloc (grown_drew (grown_refl _ _)) _, .inr rfl⟩
   ·simp [size_zeroCells, Value.cells]; omega
   ·rw [zeroCells_u8, Nat.mul_one, show (l ++ List.replicate k (0 : UInt8)).length = (l.map bv ++ (List.replicate k (0 : UInt8)).map bv).length by simp]
    simp only [Array.toList_append]
    rw [List.take_append_of_le_length (by simp), List.take_of_length_le (by simp)]
    simp
theorem wpList_append_z {ops : Array Oper} {rest : List Oper} {o : Oper} {a : Act} {w : World} {Q : Exit → Act → World → Prop} (hgd : o.guard = none) (s x : Operand)
 (ho : o.op = .call { callee := .builtin .append, args := #[s, x], argTypes := #[35, 3] }) {v vx v' : Value} {w' : World} (hs : a.eval s = v) (hx : a.eval x = vx)
 (hr : (Builtin.append_ #[35, 3] o.type #[v, vx]).run Tryz.prog w = .ok v' w') (h : wpList Tryz.prog ops Q rest (a.put o.dst v') w') : wpList Tryz.prog ops Q (o :: rest) a w := by
 refine wpList_plain hgd fun K hK => ?_
 unfold Oper.wp execOp
 simp only [ho, resolve, invoke, builtin, Sem.run_bind, Sem.run_pure, Result.andThen_ok, List.map_toArray, List.map_cons, List.map_nil, hs, hx, hr]
 exact hK _ _ h
end
/-- A disk: durable pages, pending writes, the fuse (negative: absent), whether it has failed. -/
structure DS where
 pages : List (List UInt8)
 pend : List (Nat × List UInt8)
 fuse : Int
 failed : Bool
/-- Every page has 128 bytes, every pending write is to a page that exists. -/
structure DS.Ok (D : DS) : Prop where
 pages : ∀ p ∈ D.pages, p.length = 128
 pend : ∀ w ∈ D.pend, w.1 < D.pages.length ∧ w.2.length = 128
 fuse : -1 ≤ D.fuse ∧ D.fuse ≤ 9223372036854775807
/-- The contents that a page has had, the newest last. -/
def hist (D : DS) (i : Nat) : List (List UInt8) := D.pages.getD i [] :: (D.pend.filter (fun w => w.1 == i)).map (·.2)
def content (D : DS) (i : Nat) : List UInt8 := (hist D i).getLast?.getD []
def thereB (D : DS) (p : Int) : Bool := decide (0 ≤ p) && decide (p < D.pages.length)
/-- What Read returns. -/
def dRead (D : DS) (p : Int) : List UInt8 × Int := if D.failed then ([], 10) else if thereB D p then (content D p.toNat, 0) else ([], 2)
/-- The fuse burns. -/
def dBurn (D : DS) : DS × Int := if D.fuse = 0 then ({ D with failed := true }, 10) else if 0 < D.fuse then ({ D with fuse := D.fuse - 1 }, 0) else (D, 0)
/-- What Write does. -/
def dWrite (D : DS) (p : Int) (data : List UInt8) : DS × Int :=
 if D.failed then (D, 10) else if data.length ≠ 128 then (D, 1) else if ¬ thereB D p then (D, 2) else
  if (dBurn D).2 = 0 then ({ (dBurn D).1 with pend := (dBurn D).1.pend ++ [(p.toNat, data)] }, 0) else dBurn D
/-- The first n bytes of a page are replaced. -/
def mixed (page data : List UInt8) (n : Int) : List UInt8 := data.take (min (max n 0) 128).toNat ++ page.drop (min (max n 0) 128).toNat
def settleFrom (f : Nat → Int) : Nat → List (Nat × List UInt8) → List (List UInt8) → List (List UInt8)
 | _, [], ps => ps
 | i, w :: ws, ps => settleFrom f (i + 1) ws (ps.set w.1 (mixed (ps.getD w.1 []) w.2 (f i)))
def dSettle (D : DS) (f : Nat → Int) : DS := { D with pages := settleFrom f 0 D.pend D.pages, pend := [] }
def dSync (D : DS) : DS × Int := if D.failed then (D, 10) else if (dBurn D).2 = 0 then (dSettle (dBurn D).1 (fun _ => 128), 0) else dBurn D
def dFailAfter (D : DS) (n : Int) : DS := { D with fuse := max n (-1) }
def dCrash (D : DS) (s : List Int) : DS := { dSettle D (fun i => s.getD i 0) with fuse := -1, failed := false }
def dNew (n : Nat) : DS := ⟨List.replicate n (List.replicate 128 0), [], -1, false⟩
theorem mixed_len (page data : List UInt8) (n : Int) (h1 : page.length = 128) (h2 : data.length = 128) : (mixed page data n).length = 128 := by
 unfold mixed; rw [List.length_append, List.length_take, List.length_drop]; omega
theorem settleFrom_ok (f : Nat → Int) (i : Nat) (ws : List (Nat × List UInt8)) (ps : List (List UInt8)) (h : ∀ p ∈ ps, p.length = 128) (hw : ∀ w ∈ ws, w.1 < ps.length ∧ w.2.length = 128) :
 (settleFrom f i ws ps).length = ps.length ∧ ∀ p ∈ settleFrom f i ws ps, p.length = 128 := by
 induction ws generalizing i ps with
 | nil => exact ⟨rfl, h⟩
 | cons w ws ih =>
  have h1 := hw w (by simp)
  have hg : (ps.getD w.1 []).length = 128 := by
   rw [List.getD_eq_getElem?_getD, List.getElem?_eq_getElem h1.1]
   exact h _ (List.getElem_mem _)
  have := ih (i + 1) (ps.set w.1 (mixed (ps.getD w.1 []) w.2 (f i))) (fun p hp => by
   rcases List.mem_or_eq_of_mem_set hp with hp | hp
   ·exact h p hp
   ·rw [hp]; exact mixed_len _ _ _ hg h1.2) (fun x hx => by rw [List.length_set]; exact hw x (by simp [hx]))
  rw [List.length_set] at this
  exact this
theorem dBurn_ok {D : DS} (h : D.Ok) : (dBurn D).1.Ok := by
 unfold dBurn
 split
 ·exact ⟨h.pages, h.pend, h.fuse⟩
 ·split
  ·exact ⟨h.pages, h.pend, by have := h.fuse; simp; omega⟩
  ·exact h
theorem dSettle_ok {D : DS} (h : D.Ok) (f : Nat → Int) : (dSettle D f).Ok := by
 have := settleFrom_ok f 0 D.pend D.pages h.pages h.pend
 exact ⟨this.2, (fun w hw => by cases hw), h.fuse⟩
theorem dBurn_pages (D : DS) : (dBurn D).1.pages = D.pages ∧ (dBurn D).1.pend = D.pend := by
 unfold dBurn
 split
 ·exact ⟨rfl, rfl⟩
 ·split <;> exact ⟨rfl, rfl⟩
theorem thereB_iff (D : DS) (p : Int) : thereB D p = true ↔ 0 ≤ p ∧ p < D.pages.length := by unfold thereB; simp
theorem dWrite_ok {D : DS} (h : D.Ok) (p : Int) (data : List UInt8) : (dWrite D p data).1.Ok := by
 unfold dWrite
 split
 ·exact h
 split
 ·exact h
 split
 ·exact h
 rename_i h1 h2 h3
 have hb := dBurn_ok h
 have hp := dBurn_pages D
 split
 ·refine ⟨hb.pages, fun w hw => ?_, hb.fuse⟩
  rcases List.mem_append.1 hw with hw | hw
  ·exact hb.pend w hw
  ·obtain rfl : w = (p.toNat, data) := by simpa using hw
   have h4 : thereB D p = true := by simpa using h3
   have := (thereB_iff D p).1 h4
   refine ⟨?_, by simpa using h2⟩
   show p.toNat < (dBurn D).1.pages.length
   rw [hp.1]; omega
 ·exact hb
theorem dSync_ok {D : DS} (h : D.Ok) : (dSync D).1.Ok := by
 unfold dSync
 split
 ·exact h
 split
 ·exact dSettle_ok (dBurn_ok h) _
 ·exact dBurn_ok h
theorem dCrash_ok {D : DS} (h : D.Ok) (s : List Int) : (dCrash D s).Ok := by
 have := dSettle_ok h (fun i => s.getD i 0)
 exact ⟨this.pages, this.pend, by show -1 ≤ (-1 : Int) ∧ (-1 : Int) ≤ 9223372036854775807; omega⟩
theorem dNew_ok (n : Nat) : (dNew n).Ok := ⟨(fun p hp => by have := List.eq_of_mem_replicate hp; rw [this]; simp), (fun w hw => by cases hw), (by show -1 ≤ (-1 : Int) ∧ (-1 : Int) ≤ 9223372036854775807; omega)⟩
/-- The last k bytes of n, the greatest first. -/
def dig : Nat → Nat → List UInt8
 | 0, _ => []
 | k + 1, n => UInt8.ofNat (n / 256 ^ k % 256) :: dig k n
theorem dig_len (k n : Nat) : (dig k n).length = k := by
 induction k with
 | zero => rfl
 | succ k ih => simp [dig, ih]
/-- How many bytes n takes. -/
def blen (n : Nat) : Nat := if h : n = 0 then 0 else blen (n / 256) + 1
termination_by n
decreasing_by omega
theorem blen_zero : blen 0 = 0 := by rw [blen]; simp
theorem blen_pos {n : Nat} (h : n ≠ 0) : blen n = blen (n / 256) + 1 := by rw [blen, dif_neg h]
theorem blen_le (k n : Nat) (h : n < 256 ^ k) : blen n ≤ k := by
 induction k generalizing n with
 | zero => have : n = 0 := by simpa using h
           rw [this, blen_zero]; exact Nat.le_refl _
 | succ k ih =>
  by_cases h0 : n = 0
  ·rw [h0, blen_zero]; omega
  ·rw [blen_pos h0]
   have : n / 256 < 256 ^ k := by rw [Nat.pow_succ] at h; omega
   have := ih _ this
   omega
theorem lt_blen (n : Nat) : n < 256 ^ blen n := by
 induction n using Nat.strongRecOn with
 | _ n ih =>
  by_cases h0 : n = 0
  ·rw [h0, blen_zero]; decide
  ·rw [blen_pos h0, Nat.pow_succ]
   have := ih (n / 256) (by omega)
   omega
theorem blen_iff (n k : Nat) : n / 256 ^ k = 0 ↔ blen n ≤ k := by
 constructor
 ·intro h
  apply blen_le
  have := Nat.div_eq_zero_iff.1 h
  have hp : 256 ^ k > 0 := Nat.pow_pos (by omega)
  omega
 ·intro h
  apply Nat.div_eq_of_lt
  exact Nat.lt_of_lt_of_le (lt_blen n) (Nat.pow_le_pow_right (by omega) h)
/-- A number's encoding. -/
def enc (n : Nat) : List UInt8 := UInt8.ofNat (blen n) :: dig (blen n) n
theorem dig_succ (k n : Nat) : dig (k + 1) n = UInt8.ofNat (n / 256 ^ k % 256) :: dig k n := rfl
/-- The number that bytes are. -/
def num (l : List UInt8) : Nat := l.foldl (fun n x => n * 256 + x.toNat) 0
theorem num_from (l : List UInt8) (a : Nat) : l.foldl (fun n x => n * 256 + x.toNat) a = a * 256 ^ l.length + num l := by
 induction l generalizing a with
 | nil => simp [num]
 | cons x l ih =>
  unfold num
  rw [List.foldl_cons, List.foldl_cons, ih, ih (0 * 256 + x.toNat), List.length_cons, Nat.pow_succ, Nat.add_mul, Nat.zero_mul, Nat.zero_add, Nat.mul_assoc, Nat.mul_comm 256]
  omega
theorem num_cons (x : UInt8) (l : List UInt8) : num (x :: l) = x.toNat * 256 ^ l.length + num l := by
 show l.foldl _ (0 * 256 + x.toNat) = _
 rw [num_from, Nat.zero_mul, Nat.zero_add]
theorem num_dig (k n : Nat) : num (dig k n) = n % 256 ^ k := by
 induction k with
 | zero => simp [dig, num, Nat.mod_one]
 | succ k ih =>
  have h1 : n / 256 ^ k % 256 % 2 ^ 8 = n / 256 ^ k % 256 := Nat.mod_eq_of_lt (by omega)
  have h2 : n % (256 ^ k * 256) = n % 256 ^ k + 256 ^ k * (n / 256 ^ k % 256) := Nat.mod_mul
  rw [dig_succ, num_cons, dig_len, ih, UInt8.toNat_ofNat', h1, Nat.pow_succ 256 k, h2, Nat.mul_comm]
  omega
theorem num_enc (n : Nat) : num (dig (blen n) n) = n := by rw [num_dig, Nat.mod_eq_of_lt (lt_blen n)]
theorem num_lt (l : List UInt8) : num l < 256 ^ l.length := by
 induction l with
 | nil => simp [num]
 | cons x l ih =>
  rw [num_cons, List.length_cons, Nat.pow_succ, Nat.mul_comm _ 256]
  have h1 := x.toNat_lt
  have h2 : x.toNat * 256 ^ l.length ≤ 255 * 256 ^ l.length := Nat.mul_le_mul_right _ (by omega)
  omega
end Go.Proofs.YtpadgkkeihhneaaGreat
