/- Package wire's appending functions, and the reference's. -/
import Derived.Test.YtobcomognkokmaaBytes
import Derived.Test.YtobcomognkokmaaRegion
import Derived.Test.YtobcomognkokmaaEnc
import Derived.Laws.MathBits
namespace Go.Proofs.Ytobcomognkokmaa
open Go.ChangeShapes Go.WideShapes Go.ChangeAt Go.RowKit
set_option linter.unusedVariables false

theorem bitLen_bytes (n : Nat) : (bitLen n + 7) / 8 = blen n := by
  induction n using Nat.strongRecOn with
  | _ n ih =>
    by_cases h0 : n = 0
    · rw [h0, blen_zero]; rfl
    · rw [blen_pos h0]
      by_cases h1 : n / 256 = 0
      · rw [h1, blen_zero]
        have := bitLen_le8 n (by omega)
        have h2 : bitLen n ≠ 0 := by unfold bitLen; rw [if_neg h0]; omega
        omega
      · have := bitLen_shift n 8 (by simpa using h1)
        rw [this]
        have h3 := ih (n / 256) (by omega)
        have e : n / 2 ^ 8 = n / 256 := rfl
        rw [e]
        omega

/-- One byte behind an own slice. -/
theorem byte_mod (n k : Nat) : ((n / 256 ^ k % 256 : Nat) : Int) = u8 (UInt8.ofNat (n / 256 ^ k % 256)) := by
  unfold u8
  rw [UInt8.toNat_ofNat', Nat.mod_eq_of_lt (show n / 256 ^ k % 256 < 2 ^ 8 by omega)]

def bb (b : Bool) : UInt8 := if b then 1 else 0
/-- append leaves the slice that it was given as it was. -/
theorem run_append_keep {w : World} (base : Nat) (ty : TypeId) {v x : Value} {l m : List UInt8} (hv : Ow w base v l) (hx : Bs w x m) (hlen : l.length + m.length ≤ 140737488355328) (hbase : base ≤ w.heap.size)
    {v' : Value} {w' : World} (hr : (Builtin.append_ #[22, 22] ty #[v, x]).run Try.prog w = .ok v' w') : Ow w' base v l := by
  obtain ⟨i0, hi0, hz0, hz1, hz2⟩ := info_parts info_u8
  have hv0 := hv
  obtain ⟨hl, ⟨rfl, h0⟩ | ⟨g, cap, cur, rfl, hg, hh, hn, hm, hs, ht⟩⟩ := hv
  · have : l = [] := List.eq_nil_of_length_eq_zero h0
    subst this
    exact Ow.nil _ _
  · rw [Nat.mul_one] at hs ht
    obtain ⟨A, c, rfl, h1, h2, h3⟩ := hx
    rcases Nat.eq_zero_or_pos m.length with h0 | h0
    · have hmn : m = [] := List.eq_nil_of_length_eq_zero h0
      subst hmn
      have hst : (Builtin.append_ #[22, 22] ty #[.slice (some ⟨g, 0, none⟩) l.length cap, .slice A ([] : List UInt8).length c]).run Try.prog w = .ok (.slice (some ⟨g, 0, none⟩) l.length cap) w := by
        cases A with
        | none => simp [Builtin.append_, run_underlying Try.underlying22, sizeOf, typeInfo, hi0, Builtin.lenOf, Builtin.firstCells, hn, storeCells]
        | some a => simp [Builtin.append_, run_underlying Try.underlying22, sizeOf, typeInfo, hi0, Builtin.lenOf, Builtin.firstCells, hn, storeCells, loadCells, loadCellsFrom]
      rw [hst] at hr
      injection hr with _ e2
      rw [← e2]; exact hv0
    · obtain ⟨b, off, rfl, hb, hcell⟩ := h3 h0
      have hnews : ∀ j u, (m.map bv)[j]? = some u → w.cell? ((⟨b, off, none⟩ : Addr).add j) = some u := fun j u hu => by
        have hj : j < m.length := by
          have := (List.getElem?_eq_some_iff.1 hu).1
          simpa using this
        rw [add_plain, hcell j hj]
        rw [List.getElem?_map, List.getElem?_eq_getElem hj] at hu
        exact hu
      have hone : ∀ u ∈ m.map bv, u.oneCell' = true := fun u hu => by obtain ⟨x, _, rfl⟩ := List.mem_map.1 hu; exact bv_one x
      by_cases hroom : l.length + m.length ≤ cap
      · have h4 := run_append_room (P := Try.prog) w 22 ty 5 i0 Try.underlying22 hi0 g l.length cap cur hh ⟨b, off, none⟩ m.length c (m.map bv) (by simp [hz1]) hnews hone hroom (by rw [hz1]; simp; omega)
        rw [h4] at hr
        injection hr with _ e2
        rw [← e2]
        refine ⟨hl, .inr ⟨g, cap, _, rfl, hg, setRow_heap w g cur _ _ _ hh, hn, hm, ?_, ?_⟩⟩
        · simp only [hz1, Nat.mul_one, List.size_toArray, List.length_append, List.length_take, List.length_drop, Array.length_toList, List.length_map]
          omega
        · rw [Nat.mul_one, hz1, Nat.mul_one, List.append_assoc, List.take_append_of_le_length (by have hcl := Array.length_toList (xs := cur); rw [List.length_take]; omega), List.take_take, Nat.min_self]
          exact ht
      · have h4 := run_append_grow (P := Try.prog) w 22 ty 5 i0 (.int .u8 0) Try.underlying22 hi0 hz0 ⟨g, 0, none⟩ l.length cap (l.map bv) (by simp [hz1]) (World.ownsRow.cells hv0 (g := g) rfl) ⟨b, off, none⟩ m.length c (m.map bv) (by simp [hz1]) hnews (by omega) (by omega) (growslice_fits (by omega) (by rw [hz2]; omega))
        rw [h4] at hr
        injection hr with _ e2
        rw [← e2]
        exact Ow.alloc (Ow.drew hv0) _

theorem wpList_append_bk {ops : Array Oper} {rest : List Oper} {o : Oper} {a : Act} {w : World} {Q : Exit → Act → World → Prop} (hgd : o.guard = none) (s x : Operand)
    (ho : o.op = .call { callee := .builtin .append, args := #[s, x], argTypes := #[22, 22] }) (base : Nat) {v vx : Value} {l m : List UInt8}
    (hs : a.eval s = v) (hv : Ow w base v l) (hx : a.eval x = vx) (hm : Bs w vx m) (hlen : l.length + m.length ≤ 140737488355328) (hbase : base ≤ w.heap.size)
    (h : ∀ v' w', Ow w' base v' (l ++ m) → Ow w' base v l → w.grownBy w' v.ownBlock → (v'.ownBlock = v.ownBlock ∨ v'.ownBlock = some w.heap.size) → wpList Try.prog ops Q rest (a.put o.dst v') w') : wpList Try.prog ops Q (o :: rest) a w := by
  refine wpList_plain hgd fun K hK => ?_
  obtain ⟨v', w', h1, h2, h3, h4⟩ := run_append_bs base o.type hv hm hlen hbase
  have hk := run_append_keep base o.type hv hm hlen hbase h1
  unfold Oper.wp execOp
  simp only [ho, resolve, invoke, builtin, Sem.run_bind, Sem.run_pure, Result.andThen_ok, List.map_toArray, List.map_cons, List.map_nil, hs, hx, h1]
  exact hK _ _ (h v' w' h2 hk h3 h4)

/-- Two own slices over one block: what keeps the longer one keeps the shorter one. -/
theorem Ow.pfx {w w' : World} {base : Nat} {v u : Value} {l r : List UInt8} (h : Ow w base v l) (k : Ow w base u r) (k' : Ow w' base u r) (hs : u.ownBlock = v.ownBlock) (hle : l.length ≤ r.length) : Ow w' base v l := by
  obtain ⟨hl, ⟨rfl, h0⟩ | ⟨g, cap, cur, rfl, hg, hh, hn, hm, hsz, ht⟩⟩ := h
  · have : l = [] := List.eq_nil_of_length_eq_zero h0
    subst this
    exact Ow.nil _ _
  · obtain ⟨_, ⟨rfl, _⟩ | ⟨g1, cap1, cur1, rfl, _, hh1, hn1, _, hsz1, ht1⟩⟩ := k
    · cases hs
    · have e : g1 = g := by injection hs
      subst e
      rw [hh] at hh1
      injection hh1 with e1
      injection e1 with e1
      subst e1
      obtain ⟨_, ⟨e2, _⟩ | ⟨g2, cap2, cur2, e2, _, hh2, hn2, _, hsz2, ht2⟩⟩ := k'
      · cases e2
      · injection e2 with e3 e4 e5
        injection e3 with e3
        injection e3 with e3
        subst e3 e5
        refine ⟨hl, .inr ⟨g1, cap, cur2, rfl, hg, hh2, hn, hm, by omega, ?_⟩⟩
        rw [Nat.mul_one] at ht ht1 ht2 ⊢
        have e6 : cur2.toList.take l.length = (cur2.toList.take r.length).take l.length := by rw [List.take_take, Nat.min_eq_left hle]
        rw [e6, ht2, ← ht1, List.take_take, Nat.min_eq_left hle, ht]
/-- The call appends m to an own slice, which stays as it is. -/
def Appends (w : World) (base : Nat) (v : Value) (l m : List UInt8) (e : Ending) (w' : World) : Prop :=
  ∃ v', e = .returned v' ∧ Ow w' base v' (l ++ m) ∧ Ow w' base v l ∧ w.grownBy w' v.ownBlock ∧ (v'.ownBlock = v.ownBlock ∨ ∃ g, v'.ownBlock = some g ∧ w.heap.size ≤ g)
theorem grown_next {w w1 w2 : World} {row row1 : Option Nat} (h : w.grownBy w1 row) (k : w1.grownBy w2 row1) (hr : row1 = row ∨ ∃ g, row1 = some g ∧ w.heap.size ≤ g) : w.grownBy w2 row := by
  refine ⟨k.os.trans h.os, k.tape.trans h.tape, k.output.trans h.output, Nat.le_trans h.size k.size, fun i hi hne => ?_⟩
  rw [k.block i (Nat.lt_of_lt_of_le hi h.size) ?_, h.block i hi hne]
  rcases hr with rfl | ⟨g, rfl, hg⟩
  · exact hne
  · intro e; injection e with e; omega
/-- A slice of before, where what is written is a later slice's block. -/
theorem Ow.later {w w1 w2 : World} {base : Nat} {v u : Value} {l r : List UInt8} (hw : ∀ g, v.ownBlock = some g → g < w.heap.size) (h1 : Ow w1 base v l) (u1 : Ow w1 base u r) (u2 : Ow w2 base u r) (hg : w1.grownBy w2 u.ownBlock)
    (hu : u.ownBlock = v.ownBlock ∨ ∃ g, u.ownBlock = some g ∧ w.heap.size ≤ g) (hle : l.length ≤ r.length) : Ow w2 base v l := by
  rcases hu with hu | ⟨g, hu, hgw⟩
  · exact h1.pfx u1 u2 hu hle
  · refine h1.grown hg ?_
    cases hv : v.ownBlock with
    | none => exact .inl rfl
    | some k => right; rw [hu]; intro e; injection e with e; have := hw k hv; omega
theorem own_next {w w1 : World} {v u x : Value} (hs : w.heap.size ≤ w1.heap.size) (hu : u.ownBlock = v.ownBlock ∨ ∃ g, u.ownBlock = some g ∧ w.heap.size ≤ g) (hx : x.ownBlock = u.ownBlock ∨ ∃ g, x.ownBlock = some g ∧ w1.heap.size ≤ g) : x.ownBlock = v.ownBlock ∨ ∃ g, x.ownBlock = some g ∧ w.heap.size ≤ g := by
  rcases hx with hx | ⟨g, hx, hg⟩
  · rw [hx]; exact hu
  · exact .inr ⟨g, hx, by omega⟩

theorem grown_pre {w w' : World} {row : Option Nat} {o : Obj} (hg : (w.alloc o).grownBy w' row) (h : row ≠ some w.heap.size) : w.grownBy w' row := grown_trans (grown_alloc (grown_refl w row) o) hg

set_option maxHeartbeats 400000 in
theorem appendBool_c (base : Nat) (v : Value) (l : List UInt8) (b : Bool) (w : World) (h : Ow w base v l) (hl : l.length ≤ 70368744177664) (hbase : base ≤ w.heap.size) :
    Calls Try.prog 15 #[v, .bool b] w (Appends w base v l [bb b]) := by
  have HB := hide hbase
  have HL : Hid (l.length + ([bb b]).length ≤ 140737488355328) := by unfold Hid; simp; omega
  have HV : Hid (v.ownBlock ≠ some w.heap.size) := by
    unfold Hid; intro hv; have := (h.lt _ hv).2; omega
  obtain ⟨A, c, rfl, _, _⟩ := h.form
  have H := hide h
  clear h hl hbase
  generalize hr : ([bb b]) = r
  have HR := hide hr
  clear hr
  cases b with
  | true =>
    have HO : Hid ((#[.int .u8 1] : Array Value).toList = ([bb true]).map bv) := by unfold Hid; rfl
    go_enter Try.func15, Try.ntmps15
    go_wp2_with (at_builtin; refine wpList_append_bk rfl _ _ rfl base rfl (H.out.alloc _) rfl (Ow.made (base := w.heap.size) [bb true] _ HO.out (Nat.le_refl _) (by simp [maxLen])).bs HL.out (by have := HB.out; simp; omega) ?_; intro v1 w3 how hol hg hw)
    go_ret
    exact ⟨v1, rfl, by rw [← HR.out]; exact how, hol, grown_pre hg HV.out, hw.imp_right fun h => ⟨_, h, by simp⟩⟩
  | false =>
    have HO : Hid ((#[.int .u8 0] : Array Value).toList = ([bb false]).map bv) := by unfold Hid; rfl
    go_enter Try.func15, Try.ntmps15
    go_wp2_with (at_builtin; refine wpList_append_bk rfl _ _ rfl base rfl (H.out.alloc _) rfl (Ow.made (base := w.heap.size) [bb false] _ HO.out (Nat.le_refl _) (by simp [maxLen])).bs HL.out (by have := HB.out; simp; omega) ?_; intro v1 w3 how hol hg hw)
    go_ret
    exact ⟨v1, rfl, by rw [← HR.out]; exact how, hol, grown_pre hg HV.out, hw.imp_right fun h => ⟨_, h, by simp⟩⟩
end Go.Proofs.Ytobcomognkokmaa
