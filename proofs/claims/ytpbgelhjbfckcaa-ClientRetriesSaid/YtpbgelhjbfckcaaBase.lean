/- Shared ground of this seat's proofs: from a walk to the law's statement; facts on blocks of memory; slices of integers that came in. -/
import Derived.Test.YtpbgelhjbfckcaaRows
import Derived.WalkKit
import Derived.ProofKit
import Derived.OpenShut
import Derived.Handy
import Derived.Deep.SlicePairs
import Derived.Deep.Draws
namespace Go.Proofs.Ytpbgelhjbfckcaa
open Go.ChangeShapes Go.WideShapes Go.ChangeAt Go.RowKit

/-! ### From a walk to the statement -/

theorem own_knob : ownKnob Try.prog.godebug = none := by kernel_rfl
theorem laid_out : laidOutB Try.prog = true := by kernel_rfl

theorem args_again {H : Type} {enc : TypeId × Value → H} {P : Program} {W W' : World} (hl : laidOutB P = true) (hb : Below W.heap.size W W') :
    ∀ {ts : List TypeId} {vs : List Value} {ds : List (DataW H)} {ps : List MemPlace}, (∀ t ∈ ts, P.readableRec t = true ∧ t < P.types.size) → DataW.TrodAll enc P W 0 (fun _ => true) true ts vs ds ps →
      (∀ x ∈ ps, x.block < W.heap.size) → DataW.TrodAll enc P W' 0 (fun b => decide (b < W.heap.size)) true ts vs ds ps
  | [], [], [], _, _, h, _ => h
  | t :: ts, v :: vs, d :: ds, ps, hr, h, hlt => by
    obtain ⟨p, q, h1, h2, rfl⟩ := h
    exact ⟨p, q, Below.trod hl (hr t (by simp)).1 (hr t (by simp)).2 h1 hb (fun x hx => hlt x (by simp [hx])),
      args_again hl hb (fun t' ht' => hr t' (by simp [ht'])) h2 (fun x hx => hlt x (by simp [hx])), rfl⟩
  | [], _ :: _, _, _, _, h, _ => by cases h
  | [], [], _ :: _, _, _, h, _ => by cases h
  | _ :: _, [], _, _, _, h, _ => by cases h
  | _ :: _, _ :: _, [], _, _, h, _ => by cases h

theorem args_length {H : Type} {enc : TypeId × Value → H} {P : Program} {W : World} : ∀ {ts : List TypeId} {vs : List Value} {ds : List (DataW H)} {ps : List MemPlace}, DataW.TrodAll enc P W 0 (fun _ => true) true ts vs ds ps → ds.length = ts.length
  | [], vs, ds, ps, h => by obtain ⟨_, rfl, _⟩ := trodAll_nil h; rfl
  | t :: ts, vs, ds, ps, h => by
    obtain ⟨v, vs', d, ds', p', q', _, rfl, _, _, hA'⟩ := trodAll_cons h
    simp [args_length hA']

/-- A call that answers true and leaves what was there as it was meets a law's statement. -/
theorem law_contract {H : Type} {enc : TypeId × Value → H} {P : Program} {fn : Func} {s : ChangeSpec} {tb : TypeId} {f : FuncId} {W : World} {args : Array Value} {ds gs : List (DataW H)} {before : List MemPlace}
    (hl : laidOutB P = true) (hpar : ∀ t ∈ fn.params.toList, P.readableRec t = true ∧ t < P.types.size) (hres : fn.resultTypes = #[tb]) (htb : P.underlying tb = some .bool) (hv : s.vars = [])
    (hspec : ∀ xs : List (DataW H), xs.length = fn.params.toList.length → s.fn H (xs ++ []) = { results := [.lit (.bool true)], args := xs })
    (hW : DataW.Whole enc P fn.params.toList s.vars false W args.toList ds gs before)
    (hwalk : Calls P f args W fun e W' => e = .returned (.bool true) ∧ Below W.heap.size W W') :
    Calls P f args W fun e W' => ∃ v, e = .returned v ∧ s.post enc P fn false true false false W args v W' := by
  refine hwalk.mono fun e W' ⟨he, hb⟩ => ⟨.bool true, he, ?_⟩
  have hlt := hW.lt
  have hW' := hW
  obtain ⟨p, q, hA, hV, rfl, hfz, hnd⟩ := hW
  rw [hv] at hV
  obtain ⟨rfl, rfl⟩ := trodVars_none hV
  have hlen := args_length hA
  have hs := hspec ds hlen
  refine ⟨ds, [], _, [], p, [], hW', ?_, ?_, ?_, ?_, fun h => by cases h⟩
  · rw [hs, hres]
    exact ⟨[], [], shut_bool htb true, rfl, rfl⟩
  · rw [hs]
    exact args_again hl hb hpar hA (fun x hx => hlt x (by simpa using hx))
  · rw [hs, hv]
    rfl
  · exact World.keptBut_mono (fun p hp => ⟨hp, by simpa using hp⟩) (hb.frame (· ∈ _))

/-! ### Facts kept from the walk -/
theorem hide {p : Prop} (h : p) : Hid p := h

/-! ### Blocks -/
theorem grown_refl (w : World) (row : Option Nat) : w.grownBy w row := ⟨rfl, rfl, rfl, Nat.le_refl _, fun _ _ _ => rfl⟩
theorem grown_set {a w : World} {g : Nat} (h : a.grownBy w (some g)) (o : Nat) (v : Value) : a.grownBy (w.setCell ⟨g, o, none⟩ v) (some g) :=
  ⟨h.os, h.tape, h.output, by simpa [World.setCell] using h.size, fun k hk hne => (Below.heap_setCell _ _ _ _ (fun e => hne (by rw [e]))).trans (h.block k hk hne)⟩
theorem grown_alloc {a w : World} {row : Option Nat} (h : a.grownBy w row) (o : Obj) : a.grownBy (w.alloc o) row :=
  ⟨h.os, h.tape, h.output, Nat.le_trans h.size (by simp), fun k hk hne => (Below.heap_alloc _ _ _ (Nat.lt_of_lt_of_le hk h.size)).trans (h.block k hk hne)⟩
theorem grown_drew {a w : World} {row : Option Nat} (h : a.grownBy w row) : a.grownBy w.drew row := ⟨h.os, h.tape, h.output, h.size, h.block⟩
theorem grown_drewN {a w : World} {row : Option Nat} (h : a.grownBy w row) (n : Nat) : a.grownBy (w.drewN n) row := ⟨h.os, h.tape, h.output, h.size, h.block⟩
theorem grown_trans {a b c : World} {row : Option Nat} (h : a.grownBy b row) (k : b.grownBy c row) : a.grownBy c row :=
  ⟨k.os.trans h.os, k.tape.trans h.tape, k.output.trans h.output, Nat.le_trans h.size k.size, fun i hi hne => (k.block i (Nat.lt_of_lt_of_le hi h.size) hne).trans (h.block i hi hne)⟩
theorem grown_of_below {a w : World} (h : Below a.heap.size a w) (row : Option Nat) : a.grownBy w row := ⟨h.os, h.tape, h.output, h.size, fun i hi _ => h.block i hi⟩
theorem below_of_grown {a w : World} (h : a.grownBy w none) : Below a.heap.size a w := ⟨h.os, h.tape, h.output, h.size, fun i hi => h.block i hi (by simp)⟩
theorem below_grown {B : Nat} {a b c : World} {g : Nat} (h : Below B a b) (k : b.grownBy c (some g)) (hB : B ≤ b.heap.size) (hg : B ≤ g) : Below B a c := h.grown k hB (by rintro _ ⟨⟩; exact hg)
theorem below_step {B : Nat} {a b c : World} (h : Below B a b) (k : Below b.heap.size b c) (hB : B ≤ b.heap.size) : Below B a c := h.trans (k.mono hB)
theorem below_drewN {B : Nat} {a w : World} (h : Below B a w) (n : Nat) : Below B a (w.drewN n) := ⟨h.os, h.tape, h.output, h.size, h.block⟩

/-- Block g is just the cells cs of element type t; none is frozen. -/
def Blk (w : World) (g : Nat) (t : TypeId) (cs : Array Value) : Prop := w.heap[g]? = some (.cells cs t (0, 0))
section
variable {w w' : World} {g : Nat} {t : TypeId} {cs : Array Value}
theorem Blk.lt (h : Blk w g t cs) : g < w.heap.size := by
  rcases Nat.lt_or_ge g w.heap.size with hlt | hge
  · exact hlt
  · unfold Blk at h; rw [Array.getElem?_eq_none hge] at h; cases h
theorem Blk.cell (h : Blk w g t cs) (i : Nat) : w.cell? ⟨g, i, none⟩ = cs[i]? := by unfold Blk at h; simp [World.cell?, h]
theorem Blk.froz (h : Blk w g t cs) (i : Nat) : w.frozen? ⟨g, i, none⟩ = false := by unfold Blk at h; simp [World.frozen?, h]
theorem Blk.new (w : World) (t : TypeId) (cs : Array Value) : Blk (w.alloc (.cells cs t)) w.heap.size t cs := heap_alloc_new w _
theorem Blk.alloc (h : Blk w g t cs) (o : Obj) : Blk (w.alloc o) g t cs := (Below.heap_alloc w o g h.lt).trans h
theorem Blk.drew (h : Blk w g t cs) : Blk w.drew g t cs := h
theorem Blk.drewN (h : Blk w g t cs) (n : Nat) : Blk (w.drewN n) g t cs := h
theorem Blk.put (h : Blk w g t cs) (i : Nat) (u : Value) : Blk (w.setCell ⟨g, i, none⟩ u) g t (cs.setIfInBounds i u) := by
  unfold Blk at h ⊢
  simp [World.setCell, Array.getElem?_modify, h]
theorem Blk.far (h : Blk w g t cs) {p : Addr} (hp : g ≠ p.block) (u : Value) : Blk (w.setCell p u) g t cs := (Below.heap_setCell w p u g hp).trans h
theorem Blk.below {B : Nat} (h : Blk w g t cs) (hb : Below B w w') (hg : g < B) : Blk w' g t cs := (hb.block g hg).trans h
theorem Blk.step (h : Blk w g t cs) (hb : Below w.heap.size w w') : Blk w' g t cs := (hb.block g h.lt).trans h
theorem Blk.grown {row : Option Nat} (h : Blk w g t cs) (hb : w.grownBy w' row) (hg : some g ≠ row) : Blk w' g t cs := (hb.block g h.lt hg).trans h
end

/-! ### A slice of integers that came in -/
/-- The slice v holds the integers l of kind k, in blocks that are there. -/
def IntsIn (w : World) (v : Value) (k : IntKind) (l : List Int) : Prop :=
  ∃ A c, v = .slice A l.length c ∧ l.length ≤ c ∧ c ≤ maxLen ∧ (∀ n ∈ l, (Lit.int k n).wf = true) ∧
    (0 < l.length → ∃ b off, A = some ⟨b, off, none⟩ ∧ b < w.heap.size ∧ ∀ j (h : j < l.length), w.cell? ⟨b, off + j, none⟩ = some (.int k l[j]))

theorem cell_plain {w : World} {a : Addr} {v : Value} (h : w.cell? a = some v) : a = ⟨a.block, a.off, none⟩ ∧ a.block < w.heap.size := by
  refine ⟨?_, World.block_lt_of_cell? w a h⟩
  obtain ⟨b, o, s⟩ := a
  cases s with
  | none => rfl
  | some x =>
    simp only [World.cell?] at h
    split at h <;> simp at h
theorem add_plain (b o i : Nat) : (⟨b, o, none⟩ : Addr).add i = ⟨b, o + i, none⟩ := by unfold Addr.add; split <;> simp_all

theorem open_intsIn {H : Type} {enc : TypeId × Value → H} {P : Program} {W : World} {r : Reach} {b0 : Nat} {t e : TypeId} {k : IntKind} {v : Value} {d : DataW H} {p : List MemPlace} (ht : P.underlying t = some (.slice e)) (he : P.underlying e = some (.int k)) (hc : P.cellsOf e = 1)
    (hv : Value.okWide P W r b0 t v) (h : DataW.Trod enc P W 0 (fun _ => true) true t v d p) : ∃ l, IntsIn W v k l := by
  obtain ⟨a, n, c, rfl⟩ := okWide_slice ht hv
  obtain ⟨fuel, hf⟩ := h
  rcases open_ints ht he hc hf with ⟨hcs, _⟩ | ⟨a', len, cap, zs, hcs, _, hl, hm, hz, _, hcell, hwf⟩
  · simp [Value.cells] at hcs
    obtain ⟨rfl, rfl, rfl⟩ := hcs
    exact ⟨[], none, 0, rfl, Nat.le_refl _, by unfold maxLen; omega, by simp, fun h => by simp at h⟩
  · simp [Value.cells] at hcs
    obtain ⟨rfl, rfl, rfl⟩ := hcs
    simp at hz
    have hlen : (zs.take n).length = n := by rw [List.length_take]; omega
    refine ⟨zs.take n, some a', c, by rw [hlen], by omega, hm, fun x hx => hwf x (List.mem_of_mem_take hx), fun h0 => ?_⟩
    obtain ⟨e1, e2⟩ := cell_plain (hcell 0 (by omega))
    have e3 : a' = ⟨a'.block, a'.off, none⟩ := by
      obtain ⟨b, o, s⟩ := a'
      have := congrArg Addr.spot e1
      simp only [Addr.add] at this
      simp at this
      simp [this]
    refine ⟨a'.block, a'.off, by rw [← e3], ?_, fun j hj => ?_⟩
    · have : (a'.add 0).block = a'.block := by simp [Addr.add]
      omega
    · rw [hlen] at hj
      have hj' := hcell j (by omega)
      rw [e3, add_plain] at hj'
      rw [hj']
      simp [List.getElem_take, List.getD, List.getElem?_eq_getElem (show j < zs.length by omega)]

theorem IntsIn.len {w : World} {v : Value} {k : IntKind} {l : List Int} (h : IntsIn w v k l) : l.length ≤ maxLen := by
  obtain ⟨_, _, _, h1, h2, _⟩ := h
  omega
end Go.Proofs.Ytpbgelhjbfckcaa
