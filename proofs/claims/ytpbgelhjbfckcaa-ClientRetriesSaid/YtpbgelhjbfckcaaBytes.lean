/- Byte slices in memory: one that is read (Bs), one that the call itself made (Ow); what len, string(..), append, a cut and an index do to them. -/
import Derived.Test.YtpbgelhjbfckcaaBase
import Derived.Maps.AppendAt
import Derived.Deep.AppendLies
import Derived.Laws.BytesArg
import Derived.Deep.MidRow
import Derived.Laws.MakeOwn
namespace Go.Proofs.Ytpbgelhjbfckcaa
open Go.ChangeShapes Go.WideShapes Go.ChangeAt Go.RowKit
set_option linter.unusedVariables false

/-- A byte as a number, kept whole by the walk. -/
def u8 (c : UInt8) : Int := (c.toNat : Int)
theorem u8_lt (c : UInt8) : 0 ≤ u8 c ∧ u8 c ≤ 255 := by unfold u8; have := c.toNat_lt; omega
/-- A byte as a value. -/
def bv (c : UInt8) : Value := .int .u8 (u8 c)
theorem bv_one (c : UInt8) : (bv c).oneCell' = true := rfl

/-- The slice v holds the bytes l. -/
def Bs (w : World) (v : Value) (l : List UInt8) : Prop :=
  ∃ A c, v = .slice A l.length c ∧ l.length ≤ c ∧ c ≤ maxLen ∧
    (0 < l.length → ∃ b off, A = some ⟨b, off, none⟩ ∧ b < w.heap.size ∧ ∀ j (h : j < l.length), w.cell? ⟨b, off + j, none⟩ = some (bv l[j]))

/-- The slice v is nil or the call's own (blocks from base on), its array begins with the bytes l. -/
def Ow (w : World) (base : Nat) (v : Value) (l : List UInt8) : Prop := w.ownsRow base 5 1 v l.length (l.map bv)

theorem Bs.nil (w : World) : Bs w (.slice none 0 0) [] := ⟨none, 0, rfl, Nat.le_refl _, by unfold maxLen; omega, fun h => by simp at h⟩
theorem Bs.form {w : World} {v : Value} {l : List UInt8} (h : Bs w v l) : ∃ A c, v = .slice A l.length c ∧ l.length ≤ c ∧ c ≤ 9223372036854775807 := by
  obtain ⟨A, c, hv, h1, h2, _⟩ := h
  exact ⟨A, c, hv, h1, by unfold maxLen at h2; omega⟩
theorem Bs.keep {w w' : World} {v : Value} {l : List UInt8} (h : Bs w v l) (hs : w.heap.size ≤ w'.heap.size) (hc : ∀ p : Addr, p.block < w.heap.size → v.ownBlock = some p.block → w'.cell? p = w.cell? p) : Bs w' v l := by
  obtain ⟨A, c, rfl, h1, h2, h3⟩ := h
  refine ⟨A, c, rfl, h1, h2, fun h0 => ?_⟩
  obtain ⟨b, off, rfl, hb, hcell⟩ := h3 h0
  exact ⟨b, off, rfl, Nat.lt_of_lt_of_le hb hs, fun j hj => (hc ⟨b, off + j, none⟩ hb rfl).trans (hcell j hj)⟩
theorem Bs.step {w w' : World} {v : Value} {l : List UInt8} (h : Bs w v l) (hb : Below w.heap.size w w') : Bs w' v l := h.keep hb.size fun p hp _ => hb.cell hp
theorem Bs.drew {w : World} {v : Value} {l : List UInt8} (h : Bs w v l) : Bs w.drew v l := h
theorem Bs.alloc {w : World} {v : Value} {l : List UInt8} (h : Bs w v l) (o : Obj) : Bs (w.alloc o) v l := h.step ((Below.refl _ _).alloc (Nat.le_refl _) o)
theorem Bs.grown {w w' : World} {v : Value} {l : List UInt8} {row : Option Nat} (h : Bs w v l) (hg : w.grownBy w' row) (hne : v.ownBlock = none ∨ v.ownBlock ≠ row) : Bs w' v l := by
  refine h.keep hg.size fun p hp hv => World.cell?_of_block (hg.block p.block hp ?_)
  rcases hne with hne | hne
  · rw [hne] at hv; cases hv
  · rw [hv] at hne; exact hne
theorem Bs.at_ {w : World} {A : Option Addr} {n c : Nat} {l : List UInt8} (h : Bs w (.slice A n c) l) {k : Nat} (hk : k < n) :
    ∃ b off x, A = some ⟨b, off, none⟩ ∧ b < w.heap.size ∧ l[k]? = some x ∧ w.cell? ⟨b, off + k, none⟩ = some (.int .u8 (u8 x)) := by
  obtain ⟨A', c', hv, _, _, hc⟩ := h
  injection hv with e1 e2 e3
  subst e1 e2 e3
  obtain ⟨b, off, rfl, hb, hcell⟩ := hc (by omega)
  exact ⟨b, off, l[k], rfl, hb, List.getElem?_eq_getElem hk, hcell k hk⟩
theorem Bs.len_eq {w : World} {A : Option Addr} {n c : Nat} {l : List UInt8} (h : Bs w (.slice A n c) l) : n = l.length ∧ n ≤ c ∧ c ≤ maxLen := by
  obtain ⟨A', c', hv, h1, h2, _⟩ := h
  injection hv with e1 e2 e3
  subst e1 e2 e3
  exact ⟨rfl, h1, h2⟩
/-- v[:k] -/
theorem Bs.take {w : World} {A : Option Addr} {n c : Nat} {l : List UInt8} (h : Bs w (.slice A n c) l) {k : Nat} (hk : k ≤ n) : Bs w (.slice A k c) (l.take k) := by
  obtain ⟨A', c', hv, h1, h2, hc⟩ := h
  injection hv with e1 e2 e3
  subst e1 e2 e3
  have hl : (l.take k).length = k := by rw [List.length_take]; omega
  refine ⟨A, c, by rw [hl], by omega, h2, fun h0 => ?_⟩
  obtain ⟨b, off, rfl, hb, hcell⟩ := hc (by omega)
  exact ⟨b, off, rfl, hb, fun j hj => by rw [hcell j (by omega)]; simp [List.getElem_take]⟩
/-- v[k:] -/
theorem Bs.drop {w : World} {A : Option Addr} {n c : Nat} {l : List UInt8} (h : Bs w (.slice A n c) l) {k : Nat} (hk : k ≤ n) : Bs w (.slice (if c = k then A else A.map (·.add k)) (n - k) (c - k)) (l.drop k) := by
  obtain ⟨A', c', hv, h1, h2, hc⟩ := h
  injection hv with e1 e2 e3
  subst e1 e2 e3
  have hl : (l.drop k).length = l.length - k := by rw [List.length_drop]
  refine ⟨_, c - k, by rw [hl], by omega, by omega, fun h0 => ?_⟩
  obtain ⟨b, off, rfl, hb, hcell⟩ := hc (by omega)
  rw [if_neg (by omega)]
  refine ⟨b, off + k, by simp [add_plain], hb, fun j hj => ?_⟩
  rw [Nat.add_assoc, hcell (k + j) (by omega)]
  simp

theorem Ow.nil (w : World) (base : Nat) : Ow w base (.slice none 0 0) [] := World.ownsRow_nil w base 5 1
theorem Ow.bs {w : World} {base : Nat} {v : Value} {l : List UInt8} (h : Ow w base v l) : Bs w v l := by
  obtain ⟨hl, ⟨rfl, h0⟩ | ⟨g, cap, cur, rfl, hg, hh, hn, hm, hs, ht⟩⟩ := h
  · have : l = [] := List.eq_nil_of_length_eq_zero h0
    subst this
    exact Bs.nil w
  · refine ⟨_, cap, rfl, hn, hm, fun h0 => ⟨g, 0, rfl, (Array.getElem?_eq_some_iff.1 hh).1, fun j hj => ?_⟩⟩
    rw [Nat.zero_add, cell_of_row w g j cur _ _ hh]
    have h1 : (cur.toList.take (l.length * 1))[j]? = (l.map bv)[j]? := by rw [ht]
    rw [List.getElem?_take, if_pos (by omega)] at h1
    rw [Array.getElem?_toList] at h1
    rw [h1]
    simp [hj]
theorem Ow.form {w : World} {base : Nat} {v : Value} {l : List UInt8} (h : Ow w base v l) : ∃ A c, v = .slice A l.length c ∧ l.length ≤ c ∧ c ≤ 9223372036854775807 := h.bs.form
theorem Ow.lt {w : World} {base : Nat} {v : Value} {l : List UInt8} (h : Ow w base v l) : ∀ k, v.ownBlock = some k → base ≤ k ∧ k < w.heap.size := World.ownsRow.lt h
theorem Ow.mono {w : World} {base base' : Nat} {v : Value} {l : List UInt8} (h : Ow w base v l) (hb : base' ≤ base) : Ow w base' v l := by
  obtain ⟨hl, h1 | ⟨g, cap, cur, hv, hg, r⟩⟩ := h
  · exact ⟨hl, .inl h1⟩
  · exact ⟨hl, .inr ⟨g, cap, cur, hv, Nat.le_trans hb hg, r⟩⟩
theorem Ow.grown {w w' : World} {base : Nat} {v : Value} {l : List UInt8} {row : Option Nat} (h : Ow w base v l) (hg : w.grownBy w' row) (hne : v.ownBlock = none ∨ v.ownBlock ≠ row) : Ow w' base v l := World.ownsRow.kept h hg hne
theorem Ow.step {w w' : World} {base : Nat} {v : Value} {l : List UInt8} (h : Ow w base v l) (hb : Below w.heap.size w w') : Ow w' base v l :=
  World.ownsRow.kept h (grown_of_below hb none) (by cases v.ownBlock <;> simp)
theorem Ow.alloc {w : World} {base : Nat} {v : Value} {l : List UInt8} (h : Ow w base v l) (o : Obj) : Ow (w.alloc o) base v l := World.ownsRow.alloc h o
theorem Ow.drew {w : World} {base : Nat} {v : Value} {l : List UInt8} (h : Ow w base v l) : Ow w.drew base v l := h
/-- A new array of just these bytes. -/
theorem Ow.made {w : World} {base : Nat} (l : List UInt8) (cs : Array Value) (hcs : cs.toList = l.map bv) (hb : base ≤ w.heap.size) (hl : l.length ≤ maxLen) :
    Ow (w.alloc (.cells cs 5)) base (.slice (some ⟨w.heap.size, 0, none⟩) l.length l.length) l := by
  have hsz : cs.size = l.length := by rw [← Array.length_toList, hcs, List.length_map]
  refine ⟨by simp, .inr ⟨w.heap.size, l.length, cs, rfl, hb, heap_alloc_new w _, Nat.le_refl _, hl, by omega, ?_⟩⟩
  rw [hcs, List.take_of_length_le (by simp)]

/-- A new array of just these bytes, marked or not. -/
theorem Bs.made {w : World} (l : List UInt8) (cs : Array Value) (fr : Nat × Nat) (hcs : cs.toList = l.map bv) (n : Nat) (hn : n = l.length) (hl : l.length ≤ maxLen) :
    Bs (w.alloc (.cells cs 5 fr)) (.slice (some ⟨w.heap.size, 0, none⟩) n n) l := by
  subst hn
  refine ⟨_, _, rfl, Nat.le_refl _, hl, fun h0 => ⟨w.heap.size, 0, rfl, by simp, fun j hj => ?_⟩⟩
  rw [Nat.zero_add, cell_of_row _ w.heap.size j cs 5 fr (heap_alloc_new w _)]
  rw [← Array.getElem?_toList, hcs]
  simp [hj]
/-- A block that is just these bytes, as a slice. -/
theorem Bs.blk {w : World} {g : Nat} {cs : Array Value} {l : List UInt8} (h : Blk w g 5 cs) (hcs : cs.toList = l.map bv) (n : Nat) (hn : n = l.length) (hl : l.length ≤ maxLen) : Bs w (.slice (some ⟨g, 0, none⟩) n n) l := by
  subst hn
  refine ⟨_, _, rfl, Nat.le_refl _, hl, fun h0 => ⟨g, 0, rfl, h.lt, fun j hj => ?_⟩⟩
  rw [Nat.zero_add, h.cell, ← Array.getElem?_toList, hcs]
  simp [hj]
/-- n zero bytes in memory. -/
@[irreducible] def zb (n : Nat) : Array Value := Array.replicate n (bv 0)
theorem zb_list (n : Nat) : (zb n).toList = (List.replicate n (0 : UInt8)).map bv := by unfold zb; simp
theorem zb_made (n : Nat) : madeCells #[.int .u8 0] (n * 1) = zb n := by
  unfold zb madeCells
  apply Array.ext_getElem?
  intro i
  by_cases hi : i < n
  · simp [hi, bv, u8, Nat.mod_one]
  · simp [hi]
theorem info_u8 : (Try.prog.info? 5).map (fun i => (i.zero, i.size, i.bytes)) = some (some (.int .u8 0), 1, 1) := by kernel_rfl

/-- make([]byte, n) -/
theorem run_make_bytes (n : Nat) (hn : n ≤ 140737488355328) (W : World) : (Instr.makeSlice 102 (.int .i64 (n : Int)) (.int .i64 (n : Int))).run Try.prog W = .ok (.slice (some ⟨W.heap.size, 0, none⟩) n n) (W.alloc (.cells (zb n) 5)) := by
  obtain ⟨i0, hi0, hz0, hz1, hz2⟩ := info_parts info_u8
  have h := run_make (P := Try.prog) W 102 5 i0 (.int .u8 0) Try.underlying102 hi0 hz0 .i64 .i64 (n : Int) (n : Int) (by omega) (by omega) (by rw [hz2]; omega) (by omega)
  rw [hz1] at h
  simp only [Int.toNat_natCast] at h
  rw [show (Value.int IntKind.u8 0).cells = #[.int .u8 0] from rfl, zb_made] at h
  exact h

/-- append(v, x...) onto an own array. -/
theorem run_append_bs {w : World} (base : Nat) (ty : TypeId) {v x : Value} {l m : List UInt8} (hv : Ow w base v l) (hx : Bs w x m) (hlen : l.length + m.length ≤ 140737488355328) (hbase : base ≤ w.heap.size) :
    ∃ v' w', (Builtin.append_ #[102, 102] ty #[v, x]).run Try.prog w = .ok v' w' ∧ Ow w' base v' (l ++ m) ∧ w.grownBy w' v.ownBlock ∧ (v'.ownBlock = v.ownBlock ∨ v'.ownBlock = some w.heap.size) := by
  obtain ⟨i0, hi0, hz0, hz1, hz2⟩ := info_parts info_u8
  obtain ⟨A, c, rfl, h1, h2, h3⟩ := hx
  rcases Nat.eq_zero_or_pos m.length with h0 | h0
  · have hm : m = [] := List.eq_nil_of_length_eq_zero h0
    subst hm
    cases A with
    | none =>
      refine ⟨v, w, ?_, by simpa using hv, grown_refl _ _, .inl rfl⟩
      obtain ⟨_, ⟨rfl, _⟩ | ⟨g, cap, cur, rfl, _, _, hn, _⟩⟩ := hv
      · simp [Builtin.append_, run_underlying Try.underlying102, sizeOf, typeInfo, hi0, Builtin.lenOf, Builtin.firstCells]
      · simp [Builtin.append_, run_underlying Try.underlying102, sizeOf, typeInfo, hi0, Builtin.lenOf, Builtin.firstCells, hn, storeCells]
    | some a =>
      obtain ⟨v', w', h4, h5, h6, _, h7⟩ := run_append_own_at (P := Try.prog) w base 102 ty 5 i0 (.int .u8 0) 1 1 Try.underlying102 hi0 hz0 hz1 hz2 rfl (by omega) v l.length (l.map bv) hv a 0 c [] rfl (by simp) (by simp) (by unfold maxLen; omega) (by omega) hbase
      exact ⟨v', w', h4, by simpa [Ow] using h5, h6, h7⟩
  · obtain ⟨b, off, rfl, hb, hcell⟩ := h3 h0
    obtain ⟨v', w', h4, h5, h6, _, h7⟩ := run_append_own_at (P := Try.prog) w base 102 ty 5 i0 (.int .u8 0) 1 1 Try.underlying102 hi0 hz0 hz1 hz2 rfl (by omega) v l.length (l.map bv) hv ⟨b, off, none⟩ m.length c (m.map bv) (by simp)
      (fun j u hu => by
        have hj : j < m.length := by
          have := (List.getElem?_eq_some_iff.1 hu).1
          simpa using this
        rw [add_plain, hcell j hj]
        rw [List.getElem?_map, List.getElem?_eq_getElem hj] at hu
        exact hu)
      (fun u hu => by obtain ⟨x, _, rfl⟩ := List.mem_map.1 hu; exact bv_one x) (by unfold maxLen; omega) (by omega) hbase
    exact ⟨v', w', h4, by simpa [Ow] using h5, h6, h7⟩

/-- An own slice is still there when its array was appended to. -/
theorem Ow.of_append {w w' : World} {base : Nat} {v v' : Value} {l m : List UInt8} (h : Ow w base v l) (hg : w.grownBy w' v.ownBlock) (h' : Ow w' base v' (l ++ m)) (hb : v'.ownBlock = v.ownBlock ∨ v'.ownBlock = some w.heap.size)
    (hcur : ∀ g cur t, v.ownBlock = some g → w.heap[g]? = some (.cells cur t (0, 0)) → ∃ cur', w'.heap[g]? = some (.cells cur' t (0, 0)) ∧ cur'.size = cur.size ∧ cur'.toList.take l.length = cur.toList.take l.length) : Ow w' base v l := by
  obtain ⟨hl, h1 | ⟨g, cap, cur, rfl, hg1, hh, hn, hm, hs, ht⟩⟩ := h
  · exact ⟨hl, .inl h1⟩
  · obtain ⟨cur', e1, e2, e3⟩ := hcur g cur _ rfl hh
    exact ⟨hl, .inr ⟨g, cap, cur', rfl, hg1, e1, hn, hm, by rw [e2, hs], by rw [Nat.mul_one] at ht ⊢; rw [e3, ht]⟩⟩

theorem wpList_append_bs {ops : Array Oper} {rest : List Oper} {o : Oper} {a : Act} {w : World} {Q : Exit → Act → World → Prop} (hgd : o.guard = none) (s x : Operand)
    (ho : o.op = .call { callee := .builtin .append, args := #[s, x], argTypes := #[102, 102] }) (base : Nat) {v vx : Value} {l m : List UInt8}
    (hs : a.eval s = v) (hv : Ow w base v l) (hx : a.eval x = vx) (hm : Bs w vx m) (hlen : l.length + m.length ≤ 140737488355328) (hbase : base ≤ w.heap.size)
    (h : ∀ v' w', Ow w' base v' (l ++ m) → w.grownBy w' v.ownBlock → (v'.ownBlock = v.ownBlock ∨ v'.ownBlock = some w.heap.size) → wpList Try.prog ops Q rest (a.put o.dst v') w') : wpList Try.prog ops Q (o :: rest) a w := by
  refine wpList_plain hgd fun K hK => ?_
  obtain ⟨v', w', h1, h2, h3, h4⟩ := run_append_bs base o.type hv hm hlen hbase
  unfold Oper.wp execOp
  simp only [ho, resolve, invoke, builtin, Sem.run_bind, Sem.run_pure, Result.andThen_ok, List.map_toArray, List.map_cons, List.map_nil, hs, hx, h1]
  exact hK _ _ (h v' w' h2 h3 h4)

set_option maxRecDepth 100000 in
/-- What came in as a []byte. -/
theorem open_bytes {H : Type} {enc : TypeId × Value → H} {W : World} {r : Reach} {b0 : Nat} {v : Value} {d : DataW H} {p : List MemPlace}
    (hv : Value.okWide Try.prog W r b0 102 v) (h : DataW.Trod enc Try.prog W 0 (fun _ => true) true 102 v d p) : ∃ l, Bs W v l := by
  obtain ⟨l, A, c, rfl, h1, h2, h3, h4⟩ := open_intsIn Try.underlying102 Try.underlying5 (by kernel_rfl) hv h
  refine ⟨l.map fun n => UInt8.ofNat n.toNat, A, c, by rw [List.length_map], by rw [List.length_map]; exact h1, h2, fun h0 => ?_⟩
  rw [List.length_map] at h0
  obtain ⟨b, off, rfl, hb, hcell⟩ := h4 h0
  refine ⟨b, off, rfl, hb, fun j hj => ?_⟩
  rw [List.length_map] at hj
  rw [hcell j hj]
  have hw := h3 l[j] (List.getElem_mem _)
  have ⟨w0, w1⟩ : 0 ≤ l[j] ∧ l[j] ≤ 255 := by simpa [Lit.wf, IntKind.min, IntKind.max, IntKind.signed, IntKind.bits] using hw
  simp only [bv, u8, List.getElem_map, UInt8.toNat_ofNat']
  congr 2
  omega

/-- string(v) -/
theorem run_string_bs {w : World} {v : Value} {l : List UInt8} (h : Bs w v l) : (convert 102 9 v).run Try.prog w = .ok (.string ⟨l.toArray⟩) w := by
  obtain ⟨A, c, rfl, h1, h2, h3⟩ := h
  rcases Nat.eq_zero_or_pos l.length with h0 | h0
  · have hl : l = [] := List.eq_nil_of_length_eq_zero h0
    subst hl
    cases A with
    | none => exact run_convert_bytes_nil w 102 5 Try.underlying102 Try.underlying5 0 c 9 Try.underlying9
    | some a =>
      have hb := run_bytesToString (P := Try.prog) w a 0 c [] (run_loadCells_list (P := Try.prog) w a [] (by simp))
      rw [List.length_nil, run_convert_bytes_string w 102 9 5 (some a) 0 c Try.underlying102 Try.underlying5 Try.underlying9, hb]
      rfl
  · obtain ⟨b, off, rfl, hb, hcell⟩ := h3 h0
    have := run_convert_bytes_arg (P := Try.prog) w 102 5 Try.underlying102 Try.underlying5 b off l.length c (l.map fun x => (x.toNat : Int)) (by simp)
      (fun i hi => by rw [hcell i hi]; simp [bv, u8, List.getD, hi]) 9 Try.underlying9
    rw [this]
    have e : ∀ l : List UInt8, strOfNums (l.map fun x => (x.toNat : Int)) = ⟨l.toArray⟩ := fun l => by
      unfold strOfNums
      rw [List.map_map, List.map_congr_left (g := id) (fun x _ => by simp), List.map_id]
    rw [e]
end Go.Proofs.Ytpbgelhjbfckcaa
