/- Package wire in plain Lean: what a reader finds. -/
import Derived.Test.YtpadgkkeihhneaaGreatC01
import Derived.Deep.RegionHeld3
import Derived.Laws.MathBits
import Derived.Shelf.Small.Bits
import Derived.Lib.AppendStr
import Derived.Laws.BitsAllLaws
import Derived.Deep.DeepCutAuto
namespace Go.Proofs.YtpadgkkeihhneaaGreat
set_option maxRecDepth 100000
set_option linter.unusedSimpArgs false
set_option linter.unusedVariables false
/-- A number at the beginning of bytes, and what is left. -/
def parseN (l : List UInt8) : Option (Nat × List UInt8) :=
 match l with
 | [] => none
 | h :: t => if 8 < h.toNat ∨ t.length < h.toNat ∨ (0 < h.toNat ∧ t.headD 1 = 0) then none else some (num (t.take h.toNat), t.drop h.toNat)
theorem blen_div (n k : Nat) : blen (n / 256 ^ k) = blen n - k := by
 induction k with
 | zero => simp
 | succ k ih =>
  rw [Nat.pow_succ, ← Nat.div_div_eq_div_mul]
  by_cases h : n / 256 ^ k = 0
  ·have := (blen_iff n k).1 h
   rw [h, Nat.zero_div, blen_zero]; omega
  ·have := blen_pos h
   omega
theorem top_pos (n : Nat) (h : n ≠ 0) : 0 < n / 256 ^ (blen n - 1) ∧ n / 256 ^ (blen n - 1) < 256 := by
 have hp := blen_pos h
 have h1 := blen_div n (blen n - 1)
 constructor
 ·rcases Nat.eq_zero_or_pos (n / 256 ^ (blen n - 1)) with h0 | h0
  ·rw [h0, blen_zero] at h1; omega
  ·exact h0
 ·have h2 := blen_div n (blen n)
  have h3 : n / 256 ^ blen n = 0 := Nat.div_eq_of_lt (lt_blen n)
  have h4 : blen n = (blen n - 1) + 1 := by omega
  rw [h4, Nat.pow_succ, ← Nat.div_div_eq_div_mul] at h3
  have := Nat.div_eq_zero_iff.1 h3
  omega
theorem u8_zero (k : Nat) (h : k < 256) (h0 : 0 < k) : UInt8.ofNat k ≠ 0 := by
 intro e
 have := congrArg UInt8.toNat e
 rw [UInt8.toNat_ofNat', Nat.mod_eq_of_lt h] at this
 simp at this
 omega
theorem enc_head (n : Nat) (hn : n < 2 ^ 64) : (UInt8.ofNat (blen n)).toNat = blen n := by
 have := blen_le 8 n (by omega)
 rw [UInt8.toNat_ofNat', Nat.mod_eq_of_lt (by omega)]
theorem parseN_enc (n : Nat) (hn : n < 2 ^ 64) (t : List UInt8) : parseN (enc n ++ t) = some (n, t) := by
 have h8 := blen_le 8 n (by omega)
 have hh := enc_head n hn
 show parseN (UInt8.ofNat (blen n) :: (dig (blen n) n ++ t)) = _
 unfold parseN
 simp only
 rw [if_neg, hh]
 ·rw [List.take_left' (dig_len _ _), List.drop_left' (dig_len _ _), num_enc]
 ·rw [hh]
  rintro (h | h | ⟨h, h0⟩)
  ·omega
  ·rw [List.length_append, dig_len] at h; omega
  ·obtain ⟨k, hk⟩ : ∃ k, blen n = k + 1 := ⟨blen n - 1, by omega⟩
   have hne : n ≠ 0 := by rintro rfl; rw [blen_zero] at h; omega
   have htp := top_pos n hne
   rw [hk] at h0 htp
   rw [dig_succ, List.cons_append, List.headD_cons, Nat.mod_eq_of_lt (by simpa using htp.2)] at h0
   exact u8_zero _ htp.2 htp.1 h0
theorem blen_num (x : UInt8) (l : List UInt8) (h : x ≠ 0) : blen (num (x :: l)) = l.length + 1 := by
 have hx : 0 < x.toNat := by
  rcases Nat.eq_zero_or_pos x.toNat with h0 | h0
  ·exfalso; apply h; apply UInt8.toNat_inj.1; simpa using h0
  ·exact h0
 have h1 := num_cons x l
 have h2 := num_lt (x :: l)
 have h3 := blen_le (l.length + 1) _ (by simpa using h2)
 have h4 : ¬ blen (num (x :: l)) ≤ l.length := by
  rw [← blen_iff]
  intro e
  have hp : 0 < 256 ^ l.length := Nat.pow_pos (by omega)
  have := (Nat.div_eq_zero_iff.1 e)
  have h5 : 1 * 256 ^ l.length ≤ x.toNat * 256 ^ l.length := Nat.mul_le_mul_right _ hx
  omega
 omega
theorem dig_num (l : List UInt8) (n : Nat) (h : n % 256 ^ l.length = num l) : dig l.length n = l := by
 induction l generalizing n with
 | nil => rfl
 | cons x l ih =>
  rw [List.length_cons] at h ⊢
  have hp : 0 < 256 ^ l.length := Nat.pow_pos (by omega)
  have h1 := num_cons x l
  have h2 := num_lt l
  have h3 : n % (256 ^ l.length * 256) = n % 256 ^ l.length + 256 ^ l.length * (n / 256 ^ l.length % 256) := Nat.mod_mul
  rw [Nat.pow_succ, h3, h1] at h
  have h4 : n % 256 ^ l.length < 256 ^ l.length := Nat.mod_lt _ hp
  have e1 : n % 256 ^ l.length = num l := by
   have := congrArg (· % 256 ^ l.length) h
   simp only [Nat.add_mul_mod_self_left] at this
   rw [Nat.mul_comm x.toNat, Nat.mul_add_mod, Nat.mod_mod, Nat.mod_eq_of_lt h2] at this
   exact this
  have e2 : n / 256 ^ l.length % 256 = x.toNat := by
   rw [e1, Nat.mul_comm x.toNat] at h
   have : 256 ^ l.length * (n / 256 ^ l.length % 256) = 256 ^ l.length * x.toNat := by omega
   exact Nat.eq_of_mul_eq_mul_left hp this
  rw [dig_succ, ih n e1, e2]
  congr 1
  exact UInt8.ofNat_toNat
/-- What is found has the bytes as its encoding. -/
theorem parseN_some {l t : List UInt8} {n : Nat} (h : parseN l = some (n, t)) : enc n ++ t = l ∧ n < 2 ^ 64 := by
 unfold parseN at h
 split at h
 ·cases h
 ·rename_i x r
  split at h
  ·cases h
  ·rename_i hc
   injection h with h
   injection h with h1 h2
   have hc1 : ¬ 8 < x.toNat := fun e => hc (.inl e)
   have hc2 : ¬ r.length < x.toNat := fun e => hc (.inr (.inl e))
   have hl : (r.take x.toNat).length = x.toNat := by rw [List.length_take]; omega
   have hb : blen n = x.toNat := by
    cases hr : r.take x.toNat with
    | nil =>
     rw [hr] at h1 hl
     rw [← h1, ← hl]; exact blen_zero
    | cons y s =>
     rw [hr] at h1 hl
     have hy : y ≠ 0 := by
      intro e
      apply hc
      refine .inr (.inr ⟨by rw [← hl]; simp, ?_⟩)
      cases r with
      | nil => simp at hr
      | cons z r' =>
       have : x.toNat = x.toNat - 1 + 1 := by rw [← hl]; simp
       rw [this, List.take_succ_cons] at hr
       injection hr with hz _
       rw [List.headD_cons, hz, e]
     rw [← h1, blen_num y s hy, ← hl]; simp
   have hlt := num_lt (r.take x.toNat)
   rw [hl, h1] at hlt
   have hp : (256 : Nat) ^ x.toNat ≤ 256 ^ 8 := Nat.pow_le_pow_right (by omega) (by omega)
   refine ⟨?_, by omega⟩
   have hd := dig_num (r.take x.toNat) n (by rw [hl, Nat.mod_eq_of_lt hlt, h1])
   rw [hl] at hd
   unfold enc
   rw [hb, hd, ← h2, UInt8.ofNat_toNat, List.cons_append, List.take_append_drop]
/-- The state of a reader: what is left, the error. -/
abbrev RS := List UInt8 × Int
def bad (c : Int) : RS := ([], c)
def rNum (r : RS) : RS × Nat := if r.2 = 0 then (match parseN r.1 with | some (n, t) => ((t, 0), n) | none => (bad 11, 0)) else (r, 0)
def rText (r : RS) : RS × List UInt8 := if r.2 = 0 then (match parseN r.1 with | some (n, t) => if t.length < n then (bad 11, []) else ((t.drop n, 0), t.take n) | none => (bad 11, [])) else (r, [])
section
open List renaming getElem_toArray → qa, getElem_cons_zero → qb, getElem_cons_succ → qc, setIfInBounds_toArray → qd, set_cons_zero → qe, set_cons_succ → qf
open Go.RowKit
theorem heldMono {P : Program} {md : Region.Mode} {ops : Array Oper} {Q : Exit → Act → World → Prop} {S S' : World → Prop} (h : ∀ w, S' w → S w) :
 ∀ (fuel : Nat) (listed : Array Bool) (a : Act) (w : World), wpAnyH P md ops Q S' fuel listed a w → wpAnyH P md ops Q S fuel listed a w
 | 0, _, _, _, hw => hw
 | fuel + 1, _, _, _, hw => ⟨hw.1, fun i hi => wpOp_mono (fun a' w' h' => ⟨h w' h'.1, heldMono h fuel _ a' w' h'.2⟩) (hw.2 i hi)⟩
theorem tk (i : Nat) {P : Program} {md : Region.Mode} {ops : Array Oper} {S : World → Prop} {Q : Exit → Act → World → Prop} {oi : Oper} {v : Value} {fuel : Nat} {listed : Array Bool} {a a' : Act} {w : World}
 (h : wpAnyH P md ops Q S fuel (listed.setIfInBounds i true) a' w) (hi : ops[i]? = some oi := by rfl) (hS : S w := by assumption) (hs : Region.noSelect ops = true := by kernel_rfl) (hf : Region.free md ops listed i = true := by kernel_rfl) (hr : (Region.ready md ops listed).contains i = true := by kernel_rfl)
 (hQ : ∀ c a w, Q (.panic c) (a.put oi.dst v) w → Q (.panic c) a w := by exact fun _ _ _ h => h) (hg : Region.wanted oi (yielded ops a.tmps) = true := by rfl) (hy : ∀ w, S w → (execOp a.eval oi).run P w = .ok (.value v) w := by intro w hSw; (try dsimp only at hSw); go_simp; first | done | (with_reducible rfl))
 (ha : a.put oi.dst v = a' := by (try simp only [Act.put, qa, qb, qc, qd, qe, qf]); rfl) : wpAnyH P md ops Q S (fuel + 1) listed a w :=
 wpAnyH_take hi hs hf hr hQ (Or.inl ⟨hg, hy⟩) hS (ha ▸ h)
theorem ty (i : Nat) (v : Value) {P : Program} {md : Region.Mode} {ops : Array Oper} {S : World → Prop} {Q : Exit → Act → World → Prop} {oi : Oper} {fuel : Nat} {listed : Array Bool} {a a' : Act} {w : World} (hi : ops[i]? = some oi) (hy : YieldsIf P ops S oi v a)
 (h : wpAnyH P md ops Q S fuel (listed.setIfInBounds i true) a' w) (hs : Region.noSelect ops = true := by kernel_rfl) (hf : Region.free md ops listed i = true := by kernel_rfl) (hr : (Region.ready md ops listed).contains i = true := by kernel_rfl)
 (hQ : ∀ c a w, Q (.panic c) (a.put oi.dst v) w → Q (.panic c) a w := by exact fun _ _ _ h => h) (hS : S w := by assumption)
 (ha : a.put oi.dst v = a' := by (try simp only [Act.put, qa, qb, qc, qd, qe, qf]); rfl) : wpAnyH P md ops Q S (fuel + 1) listed a w :=
 wpAnyH_take hi hs hf hr hQ hy hS (ha ▸ h)
theorem tr1 (i : Nat) {P : Program} {md : Region.Mode} {ops : Array Oper} {S : World → Prop} {Q : Exit → Act → World → Prop} {o : Oper} {fuel : Nat} {listed : Array Bool} {a : Act} {w : World}
 (h : ∀ K' : Act → World → Prop, Shut (∀ a w, S w → (S w → wpAnyH P md ops Q S fuel (listed.setIfInBounds i true) a w) → K' a w) → if Region.wanted o (yielded ops a.tmps) = true then Oper.wp P o a w K' Q else K' (a.put o.dst undef) w)
 (hr : Region.ready md ops listed = [i] := by kernel_rfl) (ho : ops[i]? = some o := by rfl) : wpAnyH P md ops Q S (fuel + 1) listed a w :=
 wpAnyH_ready hr (by simp) (AllReadyH.cons ho h AllReadyH.nil)
end
section
open Go.ChangeShapes Go.WideShapes Go.ChangeAt Go.RowKit
theorem bitLen_bytes (n : Nat) : (bitLen n + 7) / 8 = blen n := by
 induction n using Nat.strongRecOn with
 | _ n ih =>
  by_cases h0 : n = 0
  ·rw [h0, blen_zero]; rfl
  ·rw [blen_pos h0]
   by_cases h1 : n / 256 = 0
   ·rw [h1, blen_zero]
    have := bitLen_le8 n (by omega)
    have h2 : bitLen n ≠ 0 := by unfold bitLen; rw [if_neg h0]; omega
    omega
   ·have := bitLen_shift n 8 (by simpa using h1)
    rw [this]
    have h3 := ih (n / 256) (by omega)
    have e : n / 2 ^ 8 = n / 256 := rfl
    rw [e]
    omega
/-- One byte behind an own slice. -/
theorem byte_mod (n k : Nat) : ((n / 256 ^ k % 256 : Nat) : Int) = u8 (UInt8.ofNat (n / 256 ^ k % 256)) := by
 unfold u8
 rw [UInt8.toNat_ofNat', Nat.mod_eq_of_lt (show n / 256 ^ k % 256 < 2 ^ 8 by omega)]
def bb (b : Bool) : UInt8 := if b then 1 else 0
/-- append leaves the slice that it was given as it was. -/
theorem run_append_keep {w : World} (base : Nat) (ty : TypeId) {v x : Value} {l m : List UInt8} (hv : Ow w base v l) (hx : Bs w x m) (hlen : l.length + m.length ≤ 140737488355328) (hbase : base ≤ w.heap.size)
 {v' : Value} {w' : World} (hr : (Builtin.append_ #[35, 35] ty #[v, x]).run Tryz.prog w = .ok v' w') : Ow w' base v l := by
 obtain ⟨i0, hi0, hz0, hz1, hz2⟩ := info_parts info_u8
 have hv0 := hv
 obtain ⟨hl, ⟨rfl, h0⟩ | ⟨g, cap, cur, rfl, hg, hh, hn, hm, hs, ht⟩⟩ := hv
 ·have : l = [] := List.eq_nil_of_length_eq_zero h0
  subst this
  exact Ow.nil _ _
 ·rw [Nat.mul_one] at hs ht
  obtain ⟨A, c, rfl, h1, h2, h3⟩ := hx
  rcases Nat.eq_zero_or_pos m.length with h0 | h0
  ·have hmn : m = [] := List.eq_nil_of_length_eq_zero h0
   subst hmn
   have hst : (Builtin.append_ #[35, 35] ty #[.slice (some ⟨g, 0, none⟩) l.length cap, .slice A ([] : List UInt8).length c]).run Tryz.prog w = .ok (.slice (some ⟨g, 0, none⟩) l.length cap) w := by
    cases A with
    | none => simp [Builtin.append_, run_underlying Tryz.underlying35, sizeOf, typeInfo, hi0, Builtin.lenOf, Builtin.firstCells, hn, storeCells]
    | some a => simp [Builtin.append_, run_underlying Tryz.underlying35, sizeOf, typeInfo, hi0, Builtin.lenOf, Builtin.firstCells, hn, storeCells, loadCells, loadCellsFrom]
   rw [hst] at hr
   injection hr with _ e2
   rw [← e2]; exact hv0
  ·obtain ⟨b, off, rfl, hb, hcell⟩ := h3 h0
   have hnews : ∀ j u, (m.map bv)[j]? = some u → w.cell? ((⟨b, off, none⟩ : Addr).add j) = some u := fun j u hu => by
    have hj : j < m.length := by
     have := (List.getElem?_eq_some_iff.1 hu).1
     simpa using this
    rw [add_plain, hcell j hj]
    rw [List.getElem?_map, List.getElem?_eq_getElem hj] at hu
    exact hu
   have hone : ∀ u ∈ m.map bv, u.oneCell' = true := fun u hu => by obtain ⟨x, _, rfl⟩ := List.mem_map.1 hu; exact bv_one x
   by_cases hroom : l.length + m.length ≤ cap
   ·have h4 := run_append_room (P := Tryz.prog) w 35 ty 5 i0 Tryz.underlying35 hi0 g l.length cap cur hh ⟨b, off, none⟩ m.length c (m.map bv) (by simp [hz1]) hnews hone hroom (by rw [hz1]; simp; omega)
    rw [h4] at hr
    injection hr with _ e2
    rw [← e2]
    refine ⟨hl, .inr ⟨g, cap, _, rfl, hg, setRow_heap w g cur _ _ _ hh, hn, hm, ?_, ?_⟩⟩
    ·simp only [hz1, Nat.mul_one, List.size_toArray, List.length_append, List.length_take, List.length_drop, Array.length_toList, List.length_map]
     omega
    ·rw [Nat.mul_one, hz1, Nat.mul_one, List.append_assoc, List.take_append_of_le_length (by have hcl := Array.length_toList (xs := cur); rw [List.length_take]; omega), List.take_take, Nat.min_self]
     exact ht
   ·have h4 := run_append_grow (P := Tryz.prog) w 35 ty 5 i0 (.int .u8 0) Tryz.underlying35 hi0 hz0 ⟨g, 0, none⟩ l.length cap (l.map bv) (by simp [hz1]) (World.ownsRow.cells hv0 (g := g) rfl) ⟨b, off, none⟩ m.length c (m.map bv) (by simp [hz1]) hnews (by omega) (by omega) (growslice_fits (by omega) (by rw [hz2]; omega))
    rw [h4] at hr
    injection hr with _ e2
    rw [← e2]
    exact Ow.alloc (Ow.drew hv0) _
theorem wpList_append_bk {ops : Array Oper} {rest : List Oper} {o : Oper} {a : Act} {w : World} {Q : Exit → Act → World → Prop} (hgd : o.guard = none) (s x : Operand)
 (ho : o.op = .call { callee := .builtin .append, args := #[s, x], argTypes := #[35, 35] }) (base : Nat) {v vx : Value} {l m : List UInt8}
 (hs : a.eval s = v) (hv : Ow w base v l) (hx : a.eval x = vx) (hm : Bs w vx m) (hlen : l.length + m.length ≤ 140737488355328) (hbase : base ≤ w.heap.size)
 (h : ∀ v' w', Ow w' base v' (l ++ m) → Ow w' base v l → w.grownBy w' v.ownBlock → (v'.ownBlock = v.ownBlock ∨ v'.ownBlock = some w.heap.size) → wpList Tryz.prog ops Q rest (a.put o.dst v') w') : wpList Tryz.prog ops Q (o :: rest) a w := by
 refine wpList_plain hgd fun K hK => ?_
 obtain ⟨v', w', h1, h2, h3, h4⟩ := run_append_bs base o.type hv hm hlen hbase
 have hk := run_append_keep base o.type hv hm hlen hbase h1
 unfold Oper.wp execOp
 simp only [ho, resolve, invoke, builtin, Sem.run_bind, Sem.run_pure, Result.andThen_ok, List.map_toArray, List.map_cons, List.map_nil, hs, hx, h1]
 exact hK _ _ (h v' w' h2 hk h3 h4)
/-- Two own slices over one block: what keeps the longer one keeps the shorter one. -/
theorem Ow.pfx {w w' : World} {base : Nat} {v u : Value} {l r : List UInt8} (h : Ow w base v l) (k : Ow w base u r) (k' : Ow w' base u r) (hs : u.ownBlock = v.ownBlock) (hle : l.length ≤ r.length) : Ow w' base v l := by
 obtain ⟨hl, ⟨rfl, h0⟩ | ⟨g, cap, cur, rfl, hg, hh, hn, hm, hsz, ht⟩⟩ := h
 ·have : l = [] := List.eq_nil_of_length_eq_zero h0
  subst this
  exact Ow.nil _ _
 ·obtain ⟨_, ⟨rfl, _⟩ | ⟨g1, cap1, cur1, rfl, _, hh1, hn1, _, hsz1, ht1⟩⟩ := k
  ·cases hs
  ·have e : g1 = g := by injection hs
   subst e
   rw [hh] at hh1
   injection hh1 with e1
   injection e1 with e1
   subst e1
   obtain ⟨_, ⟨e2, _⟩ | ⟨g2, cap2, cur2, e2, _, hh2, hn2, _, hsz2, ht2⟩⟩ := k'
   ·cases e2
   ·injection e2 with e3 e4 e5
    injection e3 with e3
    injection e3 with e3
    subst e3 e5
    refine ⟨hl, .inr ⟨g1, cap, cur2, rfl, hg, hh2, hn, hm, by omega, ?_⟩⟩
    rw [Nat.mul_one] at ht ht1 ht2 ⊢
    have e6 : cur2.toList.take l.length = (cur2.toList.take r.length).take l.length := by rw [List.take_take, Nat.min_eq_left hle]
    rw [e6, ht2, ← ht1, List.take_take, Nat.min_eq_left hle, ht]
/-- The call appends m to an own slice, which stays as it is. -/
def Appends (w : World) (base : Nat) (v : Value) (l m : List UInt8) (e : Ending) (w' : World) : Prop :=
 ∃ v', e = .returned v' ∧ Ow w' base v' (l ++ m) ∧ Ow w' base v l ∧ w.grownBy w' v.ownBlock ∧ (v'.ownBlock = v.ownBlock ∨ ∃ g, v'.ownBlock = some g ∧ w.heap.size ≤ g)
theorem grown_next {w w1 w2 : World} {row row1 : Option Nat} (h : w.grownBy w1 row) (k : w1.grownBy w2 row1) (hr : row1 = row ∨ ∃ g, row1 = some g ∧ w.heap.size ≤ g) : w.grownBy w2 row := by
 refine ⟨k.os.trans h.os, k.tape.trans h.tape, k.output.trans h.output, Nat.le_trans h.size k.size, fun i hi hne => ?_⟩
 rw [k.block i (Nat.lt_of_lt_of_le hi h.size) ?_, h.block i hi hne]
 rcases hr with rfl | ⟨g, rfl, hg⟩
 ·exact hne
 ·intro e; injection e with e; omega
/-- A slice of before, where what is written is a later slice's block. -/
theorem Ow.later {w w1 w2 : World} {base : Nat} {v u : Value} {l r : List UInt8} (hw : ∀ g, v.ownBlock = some g → g < w.heap.size) (h1 : Ow w1 base v l) (u1 : Ow w1 base u r) (u2 : Ow w2 base u r) (hg : w1.grownBy w2 u.ownBlock)
 (hu : u.ownBlock = v.ownBlock ∨ ∃ g, u.ownBlock = some g ∧ w.heap.size ≤ g) (hle : l.length ≤ r.length) : Ow w2 base v l := by
 rcases hu with hu | ⟨g, hu, hgw⟩
 ·exact h1.pfx u1 u2 hu hle
 ·refine h1.grown hg ?_
  cases hv : v.ownBlock with
  | none => exact .inl rfl
  | some k => right; rw [hu]; intro e; injection e with e; have := hw k hv; omega
theorem own_next {w w1 : World} {v u x : Value} (hs : w.heap.size ≤ w1.heap.size) (hu : u.ownBlock = v.ownBlock ∨ ∃ g, u.ownBlock = some g ∧ w.heap.size ≤ g) (hx : x.ownBlock = u.ownBlock ∨ ∃ g, x.ownBlock = some g ∧ w1.heap.size ≤ g) : x.ownBlock = v.ownBlock ∨ ∃ g, x.ownBlock = some g ∧ w.heap.size ≤ g := by
 rcases hx with hx | ⟨g, hx, hg⟩
 ·rw [hx]; exact hu
 ·exact .inr ⟨g, hx, by omega⟩
theorem grown_pre {w w' : World} {row : Option Nat} {o : Obj} (hg : (w.alloc o).grownBy w' row) (h : row ≠ some w.heap.size) : w.grownBy w' row := grown_trans (grown_alloc (grown_refl w row) o) hg
end
section
open Go.Shelf
def lays129_ren : Go.Shelf.Ren := ⟨fun | 129 => 92 | n => n, fun | 53 => 116 | 3 => 3 | 4 => 4 | 46 => 152 | 5 => 5 | 9 => 9 | n => n, fun | n => n⟩
theorem lays129 : Go.Proofs.Lays.n129 Tryz.prog lays129_ren := {
  mixed := by kernel_rfl,
  f129 := Tryz.func92.trans (congrArg some (by kernel_rfl)),
  t3 := Tryz.underlying3,
  a3 := Tryz.isAgg3,
  z3 := Tryz.sizeOf3,
  v3 := Tryz.zeroValue3,
  t4 := Tryz.underlying4,
  a4 := Tryz.isAgg4,
  z4 := Tryz.sizeOf4,
  v4 := Tryz.zeroValue4,
  t5 := Tryz.underlying5,
  a5 := Tryz.isAgg5,
  z5 := Tryz.sizeOf5,
  v5 := Tryz.zeroValue5,
  t9 := Tryz.underlying9,
  a9 := Tryz.isAgg9,
  z9 := Tryz.sizeOf9,
  v9 := Tryz.zeroValue9,
  t46 := Tryz.underlying152,
  a46 := Tryz.isAgg152,
  z46 := Tryz.sizeOf152,
  v46 := Tryz.zeroValue152,
  t53 := Tryz.underlying116,
  a53 := Tryz.isAgg116,
  z53 := Tryz.sizeOf116,
  v53 := Tryz.zeroValue116 }
theorem lib_len (f x : Nat) (h : x < 2 ^ f) : Lib.bitLenAux f x = bitLen x := by
 induction f generalizing x with
 | zero => have : x = 0 := by simpa using h
           rw [this]; rfl
 | succ f ih =>
  rw [Lib.bitLenAux]
  by_cases h0 : x = 0
  ·rw [h0]; rfl
  ·rw [if_neg h0, ih (x / 2) (by rw [Nat.pow_succ] at h; omega)]
   by_cases h1 : x / 2 = 0
   ·have : x = 1 := by omega
    rw [this]; decide
   ·exact (bitLen_shift x 1 (by simpa using h1)).symm
/-- bits.Len64, as the number of bytes. -/
theorem len64_c (x : Nat) (w : World) (h1 : x < 2 ^ 64) :
 Calls Tryz.prog 92 #[.int .u64 x] w fun e w' => e = .returned (.int .i64 (bitLen x)) ∧ w' = w := by
 have h := Any.bits_Len64 lays129 (x : Int) w (by omega) (by omega)
 rw [Int.toNat_natCast, show Lib.bitLen x = bitLen x from lib_len 64 x h1] at h
 exact h
end
section
open Go.ChangeShapes Go.WideShapes Go.ChangeAt Go.RowKit
/-- What AppendNumber's loop keeps. -/
def NumR (w : World) (base n : Nat) (r : List UInt8) (v0 : Value) (l : List UInt8) (v vi : Value) (wr : World) : Prop :=
 ∃ (j : Nat) (acc : List UInt8), j ≤ blen n ∧ vi = .int .i64 ((j : Int) - 1) ∧ Ow wr base v acc ∧ acc ++ dig j n = r ∧ w.grownBy wr v0.ownBlock ∧ (v.ownBlock = v0.ownBlock ∨ ∃ g, v.ownBlock = some g ∧ w.heap.size ≤ g) ∧ Ow wr base v0 l ∧ l.length ≤ acc.length
set_option maxHeartbeats 1000000 in
theorem appendNumber_c (base : Nat) (v : Value) (l : List UInt8) (n : Nat) (hn : n < 2 ^ 64) (w : World) (h : Ow w base v l) (hl : l.length ≤ 70368744177664) (hbase : base ≤ w.heap.size) :
 Calls Tryz.prog 73 #[v, .int .u64 n] w (Appends w base v l (enc n)) := by
 have HB := hide hbase
 have HN := hide hn
 have hk := blen_le 8 n (by omega)
 have hbl := bitLen_bytes n
 have hb64 : bitLen n ≤ 64 := by omega
 have hq : ((bitLen n : Int) + 7) / 8 = (blen n : Int) := by omega
 have HV : Hid (v.ownBlock ≠ some w.heap.size) := by
  unfold Hid; intro hv; have := (h.lt _ hv).2; omega
 obtain ⟨A, c, rfl, _, _⟩ := h.form
 have H := hide h
 have HL := hide hl
 have HL1 : Hid (l.length + [UInt8.ofNat (blen n)].length ≤ 140737488355328) := by unfold Hid; simp; omega
 clear h hl hbase hn hbl
 go_enter Tryz.func73, Tryz.ntmps73
 go_wp2_with fail
 refine (len64_c n _ HN.out).mono ?_
 rintro e w1 ⟨rfl, rfl⟩
 have HO : Hid ((#[.int .u8 (blen n : Int)] : Array Value).toList = ([UInt8.ofNat (blen n)]).map bv) := by
  unfold Hid; simp only [List.map_cons, List.map_nil, bv, u8]; rw [UInt8.toNat_ofNat', Nat.mod_eq_of_lt (by omega)]
 go_wp2_with (at_builtin; refine wpList_append_bk rfl _ _ rfl base rfl (H.out.alloc _) rfl (Ow.made (base := w1.heap.size) [UInt8.ofNat (blen n)] _ HO.out (Nat.le_refl _) (by simp [maxLen])).bs HL1.out (by have := HB.out; simp; omega) ?_; intro v1 w3 how hol hg hw)
 have hg1 := grown_pre hg HV.out
 have hv1 : v1.ownBlock = (Value.slice A l.length c).ownBlock ∨ ∃ g, v1.ownBlock = some g ∧ w1.heap.size ≤ g := by
  rcases hw with hw | hw
  ·exact .inl hw
  ·exact .inr ⟨_, hw, by simp⟩
 have hst : (l ++ [UInt8.ofNat (blen n)]) ++ dig (blen n) n = l ++ enc n := by simp [enc]
 clear hg hw hq hb64
 generalize hr : l ++ enc n = r at *
 have HR : Hid (r.length ≤ 70368744177673) := by unfold Hid; rw [← hr]; unfold enc; simp [dig_len]; have := HL.out; omega
 have HQ := hide hr
 clear hr
 generalize l.length = ln at *
 have HLL : Hid (l.length ≤ (l ++ [UInt8.ofNat (blen n)]).length) := by unfold Hid; simp
 go_loopw [0, 6] (fun v i wr => NumR w1 base n r (Value.slice A ln c) l v i wr) (fun _ i _ => (intOf i + 1).toNat)
 case atStart => exact ⟨blen n, _, Nat.le_refl _, rfl, how, hst, hg1, hv1, hol, HLL.out⟩
 case round =>
  clear how hg1 hv1 hst hol HLL
  obtain ⟨j, acc, hj, rfl, ho, he, hg, hv, hkl, hla⟩ := hrel
  obtain ⟨A', c', rfl, _, _⟩ := ho.form
  by_cases h0 : j = 0
  ·subst h0
   have he2 : acc = r := by simpa [dig] using he
   subst he2
   have HO := hide ho
   have HG := hide hg
   have HKL := hide hkl
   have HV2 := hide hv
   clear ho hg hv he hkl hla
   go_wp2_with fail
   go_ret
   exact ⟨_, rfl, by rw [HQ.out]; exact HO.out, HKL.out, HG.out, HV2.out⟩
  ·obtain ⟨i, rfl⟩ : ∃ i, j = i + 1 := ⟨j - 1, by omega⟩
   rw [dig_succ] at he
   have hi : ((i + 1 : Nat) : Int) - 1 = (i : Int) := by omega
   rw [hi]
   have hi8 : i < 8 := by omega
   have HO := hide ho
   have HG := hide hg
   have HE := hide he
   have HV2 := hide hv
   have HKL := hide hkl
   have HLA := hide hla
   clear ho hg he hv hkl hla
   have HO2 : Hid ((#[.int .u8 ((n : Int) / 2 ^ (8 * i) % 256)] : Array Value).toList = ([UInt8.ofNat (n / 256 ^ i % 256)]).map bv) := by
    unfold Hid; simp only [List.map_cons, List.map_nil, bv]
    rw [← byte_mod, show 256 ^ i = 2 ^ (8 * i) from by rw [Nat.pow_mul]]
    simp
   have HL2 : Hid (acc.length + [UInt8.ofNat (n / 256 ^ i % 256)].length ≤ 140737488355328) := by
    have h1 := congrArg List.length HE.out
    have h2 := HR.out
    simp only [List.length_append, List.length_cons] at h1
    unfold Hid; simp only [List.length_cons, List.length_nil]; omega
   have HS := hide HG.out.size
   go_wp2_with (at_builtin; refine wpList_append_bk rfl _ _ rfl base rfl (HO.out.alloc _) rfl (Ow.made (base := wr.heap.size) [UInt8.ofNat (n / 256 ^ i % 256)] _ HO2.out (Nat.le_refl _) (by simp [maxLen])).bs HL2.out (by have := HB.out; have := HS.out; simp; omega) ?_; intro v4 w4 how hol4 hg4 hw4)
   have hlt : ∀ k, (Value.slice A' acc.length c').ownBlock = some k → k < wr.heap.size := fun k hk => (HO.out.lt k hk).2
   have hgn := grown_pre hg4 (fun e => by have := hlt _ e; omega)
   have hgw := grown_next HG.out hgn HV2.out
   have hvv : v4.ownBlock = (Value.slice A ln c).ownBlock ∨ ∃ g, v4.ownBlock = some g ∧ w1.heap.size ≤ g := by
    rcases hw4 with hw4 | hw4
    ·rw [hw4]; exact HV2.out
    ·exact .inr ⟨_, hw4, by have := HS.out; simp; omega⟩
   have hen : (acc ++ [UInt8.ofNat (n / 256 ^ i % 256)]) ++ dig i n = r := by rw [← HE.out]; simp
   have hold := HKL.out.alloc (.cells #[.int .u8 ((n : Int) / 2 ^ (8 * i) % 256)] 5)
   have hkk : Ow w4 base (Value.slice A ln c) l := Ow.later (fun g hg => (H.out.lt g hg).2) hold (HO.out.alloc _) hol4 hg4 HV2.out HLA.out
   have hlx : l.length ≤ (acc ++ [UInt8.ofNat (n / 256 ^ i % 256)]).length := by have := HLA.out; simp; omega
   clear hold
   go_roundw
   case rel => exact ⟨i, _, by omega, rfl, how, hen, hgw, hvv, hkk, hlx⟩
   case measure => simp [intOf]
end
section
open Go.ChangeShapes Go.WideShapes Go.ChangeAt Go.RowKit
end
section
open Go.ChangeShapes Go.WideShapes Go.ChangeAt Go.RowKit
theorem strCells_bv (s : ByteArray) : Lib.strCells s = s.data.toList.map bv := rfl
theorem run_append_str_keep {w : World} (base : Nat) (ty : TypeId) {v : Value} {l : List UInt8} (s : ByteArray) (hv : Ow w base v l) (hlen : l.length + s.size ≤ 140737488355328) (hbase : base ≤ w.heap.size)
 {v' : Value} {w' : World} (hr : (Builtin.append_ #[35, 9] ty #[v, .string s]).run Tryz.prog w = .ok v' w') : Ow w' base v l ∧ (v'.ownBlock = v.ownBlock ∨ ∃ g, v'.ownBlock = some g ∧ w.heap.size ≤ g) := by
 obtain ⟨i0, hi0, hz0, hz1, hz2⟩ := info_parts info_u8
 have hv0 := hv
 obtain ⟨hl, ⟨rfl, h0⟩ | ⟨g, cap, cur, rfl, hg, hh, hn, hm, hs, ht⟩⟩ := hv
 ·have : l = [] := List.eq_nil_of_length_eq_zero h0
  subst this
  refine ⟨Ow.nil _ _, ?_⟩
  by_cases h1 : s.size = 0
  ·have hc : Lib.strCells s = [] := List.eq_nil_of_length_eq_zero (by rw [Lib.strCells_length]; exact h1)
   have hf := Lib.run_firstCells_string (P := Tryz.prog) w 1 s
   rw [h1] at hf
   have hst : (Builtin.append_ #[35, 9] ty #[.slice none 0 0, .string s]).run Tryz.prog w = .ok (.slice none 0 0) w := by
    simp [Builtin.append_, run_underlying Tryz.underlying35, run_underlying Tryz.underlying9, sizeOf, typeInfo, hi0, hz1, Builtin.lenOf, h1, hf]
   rw [hst] at hr
   injection hr with e1 _
   rw [← e1]; exact .inl rfl
  ·have h4 := run_append_nil_string (P := Tryz.prog) w 35 9 ty 5 i0 (.int .u8 0) Tryz.underlying35 Tryz.underlying9 hi0 hz0 s (by omega) (by omega) (by rw [hz2]; omega)
   rw [h4] at hr
   injection hr with e1 _
   rw [← e1]; exact .inr ⟨_, rfl, Nat.le_refl _⟩
 ·rw [Nat.mul_one] at hs ht
  by_cases hroom : l.length + s.size ≤ cap
  ·have h4 := Lib.run_append_room_string (P := Tryz.prog) w 35 9 ty 5 i0 Tryz.underlying35 Tryz.underlying9 hi0 hz1 g l.length cap cur hh s hroom (by omega)
   rw [h4] at hr
   injection hr with e1 e2
   rw [← e1, ← e2]
   refine ⟨⟨hl, .inr ⟨g, cap, _, rfl, hg, setRow_heap w g cur _ _ _ hh, hn, hm, ?_, ?_⟩⟩, .inl rfl⟩
   ·simp only [Nat.mul_one, List.size_toArray, List.length_append, List.length_take, List.length_drop, Array.length_toList, Lib.strCells_length]
    omega
   ·rw [Nat.mul_one, List.append_assoc, List.take_append_of_le_length (by have hcl := Array.length_toList (xs := cur); rw [List.length_take]; omega), List.take_take, Nat.min_self]
    exact ht
  ·have h4 := Lib.run_append_grow_string (P := Tryz.prog) w 35 9 ty 5 i0 (.int .u8 0) Tryz.underlying35 Tryz.underlying9 hi0 hz0 ⟨g, 0, none⟩ l.length cap (l.map bv) (by simp [hz1]) (World.ownsRow.cells hv0 (g := g) rfl) s (by omega) (by omega) (by rw [hz2]; exact growslice_fits (by omega) (by omega))
   rw [h4] at hr
   injection hr with e1 e2
   rw [← e1, ← e2]
   exact ⟨Ow.alloc (Ow.drew hv0) _, .inr ⟨_, rfl, Nat.le_refl _⟩⟩
theorem wpList_append_str {ops : Array Oper} {rest : List Oper} {o : Oper} {a : Act} {w : World} {Q : Exit → Act → World → Prop} (hgd : o.guard = none) (s x : Operand)
 (ho : o.op = .call { callee := .builtin .append, args := #[s, x], argTypes := #[35, 9] }) (base : Nat) {v : Value} {l : List UInt8} {t : ByteArray}
 (hs : a.eval s = v) (hv : Ow w base v l) (hx : a.eval x = .string t) (hlen : l.length + t.size ≤ 140737488355328) (hbase : base ≤ w.heap.size)
 (h : ∀ v' w', Ow w' base v' (l ++ t.data.toList) → Ow w' base v l → w.grownBy w' v.ownBlock → (v'.ownBlock = v.ownBlock ∨ ∃ g, v'.ownBlock = some g ∧ w.heap.size ≤ g) → wpList Tryz.prog ops Q rest (a.put o.dst v') w') : wpList Tryz.prog ops Q (o :: rest) a w := by
 refine wpList_plain hgd fun K hK => ?_
 obtain ⟨i0, hi0, hz0, hz1, hz2⟩ := info_parts info_u8
 obtain ⟨v', w', h0, h1, h2, _⟩ := Lib.run_append_own_string (P := Tryz.prog) w base 35 9 o.type 5 i0 Tryz.underlying35 Tryz.underlying9 hi0 hz0 hz1 hz2 v l.length (l.map bv) hv t (by unfold maxLen; omega) hlen hbase
 obtain ⟨hk, hx2⟩ := run_append_str_keep base o.type t hv hlen hbase h0
 have hl : l.length + t.size = (l ++ t.data.toList).length := by rw [List.length_append]; rfl
 have h1' : Ow w' base v' (l ++ t.data.toList) := by
  unfold Ow
  rw [← hl, List.map_append, ← strCells_bv]
  exact h1
 unfold Oper.wp execOp
 simp only [ho, resolve, invoke, builtin, Sem.run_bind, Sem.run_pure, Result.andThen_ok, List.map_toArray, List.map_cons, List.map_nil, hs, hx, h0]
 exact hK _ _ (h v' w' h1' hk h2 hx2)
/-- A text's encoding. -/
def encT (s : ByteArray) : List UInt8 := enc s.size ++ s.data.toList
set_option maxHeartbeats 1000000 in
theorem appendText_c (base : Nat) (v : Value) (l : List UInt8) (s : ByteArray) (w : World) (h : Ow w base v l) (hl : l.length ≤ 35184372088832) (hs : s.size ≤ 35184372088832) (hbase : base ≤ w.heap.size) :
 Calls Tryz.prog 102 #[v, .string s] w (Appends w base v l (encT s)) := by
 obtain ⟨A, c, rfl, _, _⟩ := h.form
 have H := hide h
 have hb := blen_le 8 s.size (by omega)
 have HL : Hid ((l ++ enc s.size).length + s.size ≤ 140737488355328) := by unfold Hid enc; simp [dig_len]; omega
 clear h
 go_enter Tryz.func102, Tryz.ntmps102
 go_wp2_with fail
 refine (appendNumber_c base _ l s.size (by omega) _ H.out (by omega) hbase).mono ?_
 rintro e w1 ⟨v1, rfl, ho, hol, hg, hv⟩
 have HO := hide ho
 have HOL := hide hol
 have HG := hide hg
 have HV := hide hv
 have HB : Hid (base ≤ w1.heap.size) := hide (Nat.le_trans hbase hg.size)
 clear ho hg hol hv
 go_wp2_with (at_builtin; refine wpList_append_str rfl _ _ rfl base rfl HO.out rfl HL.out HB.out ?_; intro v2 w2 ho2 hol2 hg2 hv2)
 go_ret
 exact ⟨v2, rfl, by rw [encT, ← List.append_assoc]; exact ho2, Ow.later (fun g hg => (H.out.lt g hg).2) HOL.out HO.out hol2 hg2 HV.out (by simp), grown_next HG.out hg2 HV.out, own_next HG.out.size HV.out hv2⟩
end
/-- One step of the register. -/
def st (x : BitVec 32) : BitVec 32 := if x &&& 1#32 = 1#32 then (x >>> 1) ^^^ 3988292384#32 else x >>> 1
def stN : Nat → BitVec 32 → BitVec 32
 | 0, x => x
 | n + 1, x => stN n (st x)
/-- A byte as a register. -/
def ext (c : UInt8) : BitVec 32 := c.toBitVec.setWidth 32
def reg (r : BitVec 32) (l : List UInt8) : BitVec 32 := l.foldl (fun r c => stN 8 (r ^^^ ext c)) r
def upd (s : BitVec 32) (l : List UInt8) : BitVec 32 := ~~~ (reg (~~~ s) l)
def tab (i : Nat) : BitVec 32 := stN 8 (BitVec.ofNat 32 i)
theorem stN_add (m n : Nat) (x : BitVec 32) : stN (m + n) x = stN n (stN m x) := by
 induction m generalizing x with
 | zero => simp [stN]
 | succ m ih => rw [Nat.succ_add]; simp only [stN]; exact ih _
theorem stN_succ (n : Nat) (x : BitVec 32) : stN (n + 1) x = st (stN n x) := by rw [stN_add]; rfl
theorem and_one (x : BitVec 32) : (x &&& 1#32 = 1#32) ↔ x.getLsbD 0 = true := by
 constructor
 ·intro h
  have := congrArg (fun y => y.getLsbD 0) h
  simpa using this
 ·intro h
  apply BitVec.eq_of_getLsbD_eq
  intro i hi
  rw [BitVec.getLsbD_and]
  cases i with
  | zero => simpa using h
  | succ i =>
   have : (1#32).getLsbD (i + 1) = false := by
    rw [BitVec.getLsbD_one]; simp
   rw [this]; simp
theorem st_def (x : BitVec 32) : st x = if x.getLsbD 0 then (x >>> 1) ^^^ 3988292384#32 else x >>> 1 := by
 unfold st
 by_cases h : x.getLsbD 0 = true
 ·rw [if_pos ((and_one x).2 h), if_pos h]
 ·rw [if_neg (fun e => h ((and_one x).1 e)), if_neg h]
theorem ushr_xor (a b : BitVec 32) (n : Nat) : (a ^^^ b) >>> n = (a >>> n) ^^^ (b >>> n) := by
 apply BitVec.eq_of_getLsbD_eq
 intro i hi
 simp
theorem st_xor (a b : BitVec 32) : st (a ^^^ b) = st a ^^^ st b := by
 rw [st_def, st_def, st_def, ushr_xor, BitVec.getLsbD_xor]
 generalize a >>> 1 = x
 generalize b >>> 1 = y
 generalize 3988292384#32 = p
 cases a.getLsbD 0 <;> cases b.getLsbD 0 <;> simp
 ·rw [BitVec.xor_assoc]
 ·rw [BitVec.xor_assoc, BitVec.xor_assoc, BitVec.xor_comm y p]
 ·rw [show x ^^^ p ^^^ (y ^^^ p) = (x ^^^ y) ^^^ (p ^^^ p) from by rw [BitVec.xor_assoc, BitVec.xor_assoc, ← BitVec.xor_assoc p y p, BitVec.xor_comm p y, BitVec.xor_assoc y p p], BitVec.xor_self, BitVec.xor_zero]
theorem stN_xor (n : Nat) (a b : BitVec 32) : stN n (a ^^^ b) = stN n a ^^^ stN n b := by
 induction n generalizing a b with
 | zero => rfl
 | succ n ih => simp only [stN]; rw [st_xor, ih]
/-- What has no low bits is only shifted. -/
theorem stN_high (n : Nat) (x : BitVec 32) (h : ∀ i, i < n → x.getLsbD i = false) : stN n x = x >>> n := by
 induction n generalizing x with
 | zero => simp [stN]
 | succ n ih =>
  have hs : st x = x >>> 1 := by rw [st_def, if_neg (by rw [h 0 (by omega)]; simp)]
  simp only [stN]
  rw [hs, ih]
  ·rw [Nat.add_comm]; exact (BitVec.shiftRight_add x 1 n).symm
  ·intro i hi
   rw [BitVec.getLsbD_ushiftRight]
   exact h (1 + i) (by omega)
/-- The table's step. -/
theorem table_step (x : BitVec 32) (c : UInt8) : (x >>> 8) ^^^ tab (x.setWidth 8 ^^^ c.toBitVec).toNat = stN 8 (x ^^^ ext c) := by
 have hx : x = (x >>> 8 <<< 8) ^^^ (x.setWidth 8).setWidth 32 := by
  apply BitVec.eq_of_getLsbD_eq
  intro i hi
  rw [BitVec.getLsbD_xor, BitVec.getLsbD_shiftLeft, BitVec.getLsbD_ushiftRight, BitVec.getLsbD_setWidth, BitVec.getLsbD_setWidth]
  by_cases h8 : i < 8
  ·simp [h8, hi]
  ·simp [h8, hi, show 8 + (i - 8) = i by omega]
 have ht : BitVec.ofNat 32 (x.setWidth 8 ^^^ c.toBitVec).toNat = (x.setWidth 8).setWidth 32 ^^^ ext c := by
  unfold ext
  apply BitVec.eq_of_toNat_eq
  generalize x.setWidth 8 = y
  have h1 := y.isLt
  have h2 := c.toBitVec.isLt
  rw [BitVec.toNat_ofNat, BitVec.toNat_xor, BitVec.toNat_xor, BitVec.toNat_setWidth 32 y, BitVec.toNat_setWidth 32 c.toBitVec]
  rw [Nat.mod_eq_of_lt (by omega : y.toNat < 2 ^ 32), Nat.mod_eq_of_lt (by omega : c.toBitVec.toNat < 2 ^ 32)]
  exact Nat.mod_eq_of_lt (Nat.lt_of_lt_of_le (Nat.xor_lt_two_pow h1 h2) (by decide))
 have hh : stN 8 (x >>> 8 <<< 8) = x >>> 8 := by
  rw [stN_high]
  ·apply BitVec.eq_of_getLsbD_eq
   intro i hi
   simp only [BitVec.getLsbD_ushiftRight, BitVec.getLsbD_shiftLeft]
   by_cases h : 8 + i < 32
   ·simp [h]
   ·simp [h]
    exact BitVec.getLsbD_of_ge x _ (by omega)
  ·intro i hi
   simp [BitVec.getLsbD_shiftLeft, hi]
 unfold tab
 rw [ht]
 conv => rhs; rw [hx]
 rw [BitVec.xor_assoc, stN_xor 8 (x >>> 8 <<< 8), hh]
theorem reg_append (r : BitVec 32) (a b : List UInt8) : reg r (a ++ b) = reg (reg r a) b := by unfold reg; rw [List.foldl_append]
theorem reg_snoc (r : BitVec 32) (l : List UInt8) (c : UInt8) : reg r (l ++ [c]) = stN 8 (reg r l ^^^ ext c) := by rw [reg_append]; rfl
theorem reg_take_succ (r : BitVec 32) (l : List UInt8) (k : Nat) (x : UInt8) (h : l[k]? = some x) : reg r (l.take (k + 1)) = stN 8 (reg r (l.take k) ^^^ ext x) := by
 rw [List.take_add_one, h]
 exact reg_snoc _ _ _
section
open Go.RowKit
theorem ofInt_u32 (a : BitVec 32) : BitVec.ofInt 32 (a.toNat : Int) = a := by
 rw [BitVec.ofInt_natCast]; simp
theorem bits_u32 (f : BitVec 32 → BitVec 32 → BitVec 32) (op : BinOp) (hop : ∀ x y : Int, bits op .u32 x y = IntKind.u32.wrap ((f (BitVec.ofInt 32 x) (BitVec.ofInt 32 y)).toNat : Int)) (a b : BitVec 32) :
 bits op .u32 (a.toNat : Int) (b.toNat : Int) = ((f a b).toNat : Int) := by
 rw [hop, ofInt_u32, ofInt_u32]
 have := (f a b).isLt
 rw [IntKind.wrap_u32]; omega
/-- A register as a number, kept whole by the walk. -/
def u32 (x : BitVec 32) : Int := (x.toNat : Int)
theorem u32_inj {a b : BitVec 32} (h : u32 a = u32 b) : a = b := by unfold u32 at h; apply BitVec.eq_of_toNat_eq; omega
theorem u32_xor (a b : BitVec 32) : bits .xor .u32 (u32 a) (u32 b) = u32 (a ^^^ b) := bits_u32 (· ^^^ ·) .xor (fun _ _ => rfl) a b
theorem u32_poly (a : BitVec 32) : bits .xor .u32 (u32 a) 3988292384 = u32 (a ^^^ 3988292384#32) := u32_xor a 3988292384#32
theorem u32_not (a : BitVec 32) : bits .xor .u32 IntKind.u32.max (u32 a) = u32 (~~~ a) := by
 have h := u32_xor (BitVec.allOnes 32) a
 rw [show (BitVec.allOnes 32 ^^^ a) = ~~~ a from by rw [BitVec.allOnes_xor]] at h
 exact h
theorem u32_and1 (a : BitVec 32) : bits .and .u32 (u32 a) 1 = u32 (a &&& 1#32) := bits_u32 (· &&& ·) .and (fun _ _ => rfl) a 1#32
theorem u32_shr (a : BitVec 32) (n k : Nat) (hk : k = 2 ^ n) : u32 a / (k : Int) = u32 (a >>> n) := by
 unfold u32
 rw [BitVec.toNat_ushiftRight, Nat.shiftRight_eq_div_pow, hk]; rfl
theorem u32_shr1 (a : BitVec 32) : u32 a / (2 : Int) = u32 (a >>> 1) := u32_shr a 1 2 rfl
theorem u32_shr8 (a : BitVec 32) : u32 a / (256 : Int) = u32 (a >>> 8) := u32_shr a 8 256 rfl
theorem u32_shr16 (a : BitVec 32) : u32 a / (65536 : Int) = u32 (a >>> 16) := u32_shr a 16 65536 rfl
theorem u32_shr24 (a : BitVec 32) : u32 a / (16777216 : Int) = u32 (a >>> 24) := u32_shr a 24 16777216 rfl
/-- The low byte. -/
def lo8 (a : BitVec 32) : UInt8 := ⟨a.setWidth 8⟩
theorem u32_lo (a : BitVec 32) : u32 a % 256 = u8 (lo8 a) := by
 show _ = (((a.setWidth 8).toNat : Nat) : Int)
 unfold u32
 rw [BitVec.toNat_setWidth]; omega
theorem u8_ext (c : UInt8) : u8 c % 4294967296 = u32 (ext c) := by
 unfold ext u32 u8
 rw [BitVec.toNat_setWidth]
 have : c.toBitVec.toNat = c.toNat := rfl
 omega
theorem ofInt_u8 (a : UInt8) : BitVec.ofInt 8 (a.toNat : Int) = a.toBitVec := by
 rw [BitVec.ofInt_natCast]; show BitVec.ofNat 8 a.toBitVec.toNat = _; simp
theorem u8_xor (a b : UInt8) : bits .xor .u8 (u8 a) (u8 b) = u8 (a ^^^ b) := by
 show IntKind.u8.wrap ((BitVec.ofInt 8 (a.toNat : Int) ^^^ BitVec.ofInt 8 (b.toNat : Int)).toNat : Int) = ((a ^^^ b).toNat : Int)
 rw [ofInt_u8, ofInt_u8]
 have h : ((a ^^^ b).toNat : Nat) = (a.toBitVec ^^^ b.toBitVec).toNat := rfl
 rw [h]
 have := (a.toBitVec ^^^ b.toBitVec).isLt
 rw [IntKind.wrap_u8]; omega
theorem u32_one (a : BitVec 32) : (u32 (a &&& 1#32) == 1) = (a &&& 1#32 == 1#32) := by
 rw [Bool.eq_iff_iff]
 simp only [beq_iff_eq]
 constructor
 ·intro h
  exact u32_inj h
 ·intro h
  rw [h]; rfl
end
section
open Go.ChangeShapes Go.WideShapes Go.ChangeAt Go.RowKit
attribute [local go_sem] u32_xor u32_and1 u32_poly u32_not u32_shr1 u32_shr8 u32_lo u8_ext u8_xor
theorem st_pos {x : BitVec 32} (h : x &&& 1#32 = 1#32) : st x = (x >>> 1) ^^^ 3988292384#32 := if_pos h
theorem st_neg {x : BitVec 32} (h : ¬ x &&& 1#32 = 1#32) : st x = x >>> 1 := if_neg h
set_option maxHeartbeats 1000000 in
theorem register_c (r : BitVec 32) (v : Value) (l : List UInt8) (w : World) (h : Bs w v l) :
 Calls Tryz.prog 120 #[.int .u32 (u32 r), v] w fun e w' => e = .returned (.int .u32 (u32 (reg r l))) ∧ w = w' := by
 obtain ⟨A, c, rfl, hc, hm⟩ := h.form
 generalize hn : l.length = n at *
 have Hn := hide hn
 clear hn
 go_enter Tryz.func120, Tryz.ntmps120
 go_wp2_with fail
 go_loop [0, 5] (fun s i => ∃ k : Nat, k ≤ n ∧ i = .int .i64 k ∧ s = .int .u32 (u32 (reg r (l.take k)))) (fun _ i => n - (intOf i).toNat)
 case atStart => exact ⟨0, Nat.zero_le _, rfl, rfl⟩
 case round =>
  obtain ⟨k, hk, rfl, rfl⟩ := hrel
  by_cases hlt : k < n
  ·obtain ⟨b, off, x, rfl, hb, hx, hcell⟩ := h.at_ hlt
   have HS := hide (reg_take_succ r l k x hx)
   clear hx
   generalize reg r (l.take k) = R at *
   go_wp2_with fail
   go_loop [0, 6] (fun s j => ∃ m : Nat, m ≤ 8 ∧ j = .int .i64 m ∧ s = .int .u32 (u32 (stN m (R ^^^ ext x)))) (fun _ j => 8 - (intOf j).toNat)
   case atStart => exact ⟨0, Nat.zero_le _, rfl, rfl⟩
   case round =>
    obtain ⟨m, hm8, rfl, rfl⟩ := hrel
    have HT := hide (stN_succ m (R ^^^ ext x))
    by_cases hlt8 : m < 8
    ·generalize stN m (R ^^^ ext x) = S at *
     by_cases hbit : S &&& 1#32 = 1#32
     ·have hq : (u32 (S &&& 1#32) == 1) = true := by rw [u32_one]; simpa using hbit
      have HU := hide (st_pos hbit)
      clear hbit
      go_wp2_with fail
      go_round
      case rel => exact ⟨m + 1, by omega, by go_num, by rw [HT.out, HU.out, ← u32_poly, ← u32_shr1]⟩
      case measure => simp [intOf]; omega
     ·have hq : (u32 (S &&& 1#32) == 1) = false := by rw [u32_one]; simpa using hbit
      have HU := hide (st_neg hbit)
      clear hbit
      go_wp2_with fail
      go_round
      case rel => exact ⟨m + 1, by omega, by go_num, by rw [HT.out, HU.out, ← u32_shr1]⟩
      case measure => simp [intOf]; omega
    ·obtain rfl : m = 8 := by omega
     go_wp2_with fail
     go_round
     case rel => exact ⟨k + 1, by omega, by go_num, by rw [HS.out]⟩
     case measure => simp [intOf]; omega
  ·obtain rfl : k = n := by omega
   rw [List.take_of_length_le (by rw [Hn.out]; exact Nat.le_refl _)]
   go_wp2_with fail
   go_ret
   exact ⟨rfl, rfl⟩
/-! ### The table -/
/-- The table's block when k entries are filled. -/
@[irreducible] def tabTo (k : Nat) : Array Value := Array.ofFn (n := 256) fun i => .int .u32 (if i.val < k then (u32 (tab i.val)) else 0)
theorem tabTo_size (k : Nat) : (tabTo k).size = 256 := by unfold tabTo; simp
theorem tabTo_get (k i : Nat) (hi : i < 256) : (tabTo k)[i]? = some (.int .u32 (if i < k then (u32 (tab i)) else 0)) := by
 unfold tabTo
 rw [Array.getElem?_ofFn, dif_pos hi]
theorem tabTo_succ (k : Nat) (hk : k < 256) : (tabTo k).setIfInBounds k (.int .u32 (u32 (tab k))) = tabTo (k + 1) := by
 apply Array.ext_getElem?
 intro i
 rw [Array.getElem?_setIfInBounds]
 by_cases hi : i < 256
 ·rw [tabTo_get k i hi, tabTo_get (k + 1) i hi]
  by_cases he : k = i
  ·subst he
   rw [if_pos rfl, if_pos (by rw [tabTo_size]; exact hk), if_pos (by omega)]
  ·rw [if_neg he]
   by_cases hl : i < k
   ·rw [if_pos hl, if_pos (by omega)]
   ·rw [if_neg hl, if_neg (by omega)]
 ·rw [if_neg (by omega), Array.getElem?_eq_none (by rw [tabTo_size]; omega), Array.getElem?_eq_none (by rw [tabTo_size]; omega)]
theorem tabTo_one (k : Nat) : (tabTo k).all (·.oneCell') = true := by
 unfold tabTo
 rw [Array.all_eq_true]
 intro i hi
 simp [Value.oneCell']
/-- The table as a value's cells. -/
def tabAll : Array Value := tabTo 256
def tabZero : Array Value := tabTo 0
theorem zero_rep (w : World) : (zeroValue 164).run Tryz.prog w = .ok (.agg (Array.replicate 256 (.int .u32 0))) w := by kernel_rfl
theorem zero_tab (w : World) : (zeroValue 164).run Tryz.prog w = .ok (.agg tabZero) w := by
 have h : tabZero = Array.replicate 256 (.int .u32 0) := by
  unfold tabZero
  apply Array.ext_getElem?
  intro i
  by_cases hi : i < 256
  ·rw [tabTo_get _ _ hi, Array.getElem?_replicate, if_pos hi]; simp
  ·rw [Array.getElem?_eq_none (by rw [tabTo_size]; omega), Array.getElem?_eq_none (by simp; omega)]
 rw [h]
 exact zero_rep w
/-- A block written over from its beginning. -/
theorem Blk.over {w : World} {g : Nat} {t : TypeId} {old cs : Array Value} (h : Blk w g t old) (hs : cs.size = old.size) : Blk (w.setCells g 0 cs.toList) g t cs ∧ w.grownBy (w.setCells g 0 cs.toList) (some g) := by
 have key : ∀ (vs : List Value) (o : Nat) (w : World) (old : Array Value), Blk w g t old → ∃ new, Blk (w.setCells g o vs) g t new ∧ new.size = old.size ∧ (∀ j, new[j]? = if o ≤ j ∧ j < o + vs.length ∧ j < old.size then vs[j - o]? else old[j]?) ∧ w.grownBy (w.setCells g o vs) (some g) := by
  intro vs
  induction vs with
  | nil => intro o w old h; exact ⟨old, h, rfl, fun j => by rw [if_neg (by simp; omega)], grown_refl _ _⟩
  | cons v r ih =>
   intro o w old h
   obtain ⟨new, h1, h2, h3, h4⟩ := ih (o + 1) (w.setCell ⟨g, o, none⟩ v) _ (h.put o v)
   refine ⟨new, h1, by rw [h2]; simp, fun j => ?_, grown_trans (grown_set (grown_refl _ _) o v) h4⟩
   rw [h3]
   simp only [Array.size_setIfInBounds, List.length_cons]
   by_cases hj : j < old.size
   ·by_cases ho : o = j
    ·subst ho
     rw [if_neg (by omega), if_pos (by omega), Array.getElem?_setIfInBounds, if_pos rfl, if_pos hj]; simp
    ·by_cases hr : o + 1 ≤ j ∧ j < o + 1 + r.length
     ·rw [if_pos (by omega), if_pos (by omega), show j - o = (j - (o + 1)) + 1 from by omega, List.getElem?_cons_succ]
     ·rw [if_neg (by omega), if_neg (by omega), Array.getElem?_setIfInBounds, if_neg ho]
   ·rw [if_neg (by omega), if_neg (by omega), Array.getElem?_eq_none (by simp; omega), Array.getElem?_eq_none (by omega)]
 obtain ⟨new, h1, h2, h3, h4⟩ := key cs.toList 0 w old h
 have : new = cs := by
  apply Array.ext_getElem?
  intro j
  rw [h3]
  by_cases hj : j < cs.size
  ·rw [if_pos (by simp; omega)]; simp
  ·rw [if_neg (by simp; omega), Array.getElem?_eq_none (by omega), Array.getElem?_eq_none (by omega)]
 exact ⟨this ▸ h1, h4⟩
theorem u32_ofNat (z : Int) (h0 : 0 ≤ z) (h : z < 256) : u32 (BitVec.ofNat 32 z.toNat) = z := by unfold u32; rw [BitVec.toNat_ofNat]; omega
theorem size_eq : tabAll.size = tabZero.size := (tabTo_size 256).trans (tabTo_size 0).symm
theorem size_info : (Tryz.prog.info? 164).map (·.size) = some 256 := by kernel_rfl
theorem size_tab : (Tryz.prog.info? 164).map (·.size) = some tabAll.size := size_info.trans (by rw [show tabAll.size = 256 from tabTo_size 256])
set_option maxHeartbeats 1000000 in
theorem table_c (w : World) : Calls Tryz.prog 119 #[] w fun e w' => e = .returned (.agg tabAll) ∧ Below w.heap.size w w' := by
 have hz := zero_tab
 go_enter Tryz.func119, Tryz.ntmps119
 go_wp2_with fail
 have h0 : Blk ((w.alloc (.cells tabZero 164)).alloc (.cells tabZero 164)) w.heap.size 164 tabZero := (Blk.new _ _ _).alloc _
 have h1 : Blk ((w.alloc (.cells tabZero 164)).alloc (.cells tabZero 164)) (w.heap.size + 1) 164 tabZero := by
  have := Blk.new (w.alloc (.cells tabZero 164)) 164 tabZero
  simpa using this
 have hb : Below w.heap.size w ((w.alloc (.cells tabZero 164)).alloc (.cells tabZero 164)) := by go_grown
 clear hz
 generalize (w.alloc (.cells tabZero 164)).alloc (.cells tabZero 164) = w1 at *
 have hg2 : w.heap.size ≤ w.heap.size + 1 := by omega
 have hne : w.heap.size ≠ w.heap.size + 1 := by omega
 generalize w.heap.size + 1 = g2 at *
 go_loopw [5] (fun i wr => ∃ z : Int, 0 ≤ z ∧ z ≤ 256 ∧ i = .int .i64 z ∧ Blk wr w.heap.size 164 tabZero ∧ Blk wr g2 164 (tabTo z.toNat) ∧ Below w.heap.size w wr) (fun i _ => (256 - intOf i).toNat)
 case atStart => exact ⟨0, by omega, by omega, rfl, h0, h1, hb⟩
 case round =>
  clear h0 h1 hb
  obtain ⟨z, hz0, hz1, rfl, h0, h1, hb⟩ := hrel
  by_cases hlt : z < 256
  ·have hc : wr.cell? ⟨g2, z.toNat, none⟩ = some (.int .u32 0) := by rw [h1.cell, tabTo_get _ _ (by omega), if_neg (by omega)]
   have hf := h1.froz z.toNat
   have HT := hide (tabTo_succ z.toNat (by omega))
   have HK := hide (u32_ofNat z hz0 hlt)
   have H0 := hide h0
   have H1 := hide h1
   have HB := hide hb
   clear h0 h1 hb
   go_wp2_with fail
   have HC := hide hc
   have HF := hide hf
   have HZ := hide hlt
   have HZ1 := hide hz1
   clear hc hf hlt hz1
   go_loop [3, 10] (fun s j => ∃ m : Nat, m ≤ 8 ∧ j = .int .i64 m ∧ s = .int .u32 (u32 (stN m (BitVec.ofNat 32 z.toNat)))) (fun _ j => 8 - (intOf j).toNat)
   case atStart => exact ⟨0, Nat.zero_le _, rfl, by simp only [stN]; rw [HK.out]⟩
   case round =>
    obtain ⟨m, hm8, rfl, rfl⟩ := hrel
    have HS := hide (stN_succ m (BitVec.ofNat 32 z.toNat))
    by_cases hlt8 : m < 8
    ·generalize stN m (BitVec.ofNat 32 z.toNat) = S at *
     by_cases hbit : S &&& 1#32 = 1#32
     ·have hq : (u32 (S &&& 1#32) == 1) = true := by rw [u32_one]; simpa using hbit
      have HU := hide (st_pos hbit)
      clear hbit
      go_wp2_with fail
      go_round
      case rel => exact ⟨m + 1, by omega, by go_num, by rw [HS.out, HU.out, ← u32_poly, ← u32_shr1]⟩
      case measure => simp [intOf]; omega
     ·have hq : (u32 (S &&& 1#32) == 1) = false := by rw [u32_one]; simpa using hbit
      have HU := hide (st_neg hbit)
      clear hbit
      go_wp2_with fail
      go_round
      case rel => exact ⟨m + 1, by omega, by go_num, by rw [HS.out, HU.out, ← u32_shr1]⟩
      case measure => simp [intOf]; omega
    ·obtain rfl : m = 8 := by omega
     have hc := HC.out
     have hf := HF.out
     have hlt := HZ.out
     go_wp2_with fail
     go_roundw
     case rel =>
      refine ⟨z + 1, by omega, by omega, rfl, H0.out.far (p := ⟨g2, z.toNat, none⟩) hne _, ?_, HB.out.setCell (p := ⟨g2, z.toNat, none⟩) hg2 _⟩
      have := H1.out.put z.toNat (.int .u32 (u32 (tab z.toNat)))
      rw [HT.out] at this
      rw [show (z + 1).toNat = z.toNat + 1 from by omega]
      exact this
     case measure => simp [intOf]; omega
  ·have h2 : Blk wr g2 164 tabAll := by
    have e : z.toNat = 256 := by omega
    rw [e] at h1
    exact h1
   clear h1
   have H0 := hide h0
   have HB := hide hb
   clear h0 hb
   go_upto_region 15 with fail
   go_step
   refine wpList_load_row rfl 164 _ rfl g2 rfl 164 tabAll (0, 0) _ h2 Tryz.underlying164 rfl size_tab ?_
   refine wpList_store_mid rfl 164 _ _ rfl w.heap.size 0 tabAll rfl rfl (H0.out.there size_eq) size_tab (tabTo_one 256) ?_
   obtain ⟨h3, h4⟩ := H0.out.over (cs := tabAll) size_eq
   have hb2 := below_grown HB.out h4 HB.out.size (Nat.le_refl _)
   generalize wr.setCells w.heap.size 0 tabAll.toList = w5 at *
   clear h4 h2
   go_step
   go_step
   go_step
   refine wp_ret ?_
   refine bodyPost_ret (results_cell_row rfl _ _ w.heap.size 164 tabAll (0, 0) _ rfl h3 Tryz.underlying164 rfl size_tab) rfl ⟨rfl, hb2⟩
end
section
open Go.ChangeShapes Go.WideShapes Go.ChangeAt Go.RowKit
attribute [local go_sem] u32_xor u32_not
theorem lo_xor (x : BitVec 32) (c : UInt8) : bits .xor .u8 (u32 x % 256) (u8 c) = u8 (lo8 x ^^^ c) := by rw [u32_lo, u8_xor]
theorem step_spell (x : BitVec 32) (c : UInt8) : bits .xor .u32 (u32 x / 256) (u32 (tab (lo8 x ^^^ c).toNat)) = u32 (stN 8 (x ^^^ ext c)) := by
 rw [u32_shr8, u32_xor, ← table_step]
 rfl
theorem tab_cell {w : World} {g : Nat} (h : Blk w g 164 tabAll) (y : UInt8) : w.cell? ⟨g, (u8 y).toNat, none⟩ = some (.int .u32 (u32 (tab y.toNat))) := by
 have h1 : (u8 y).toNat = y.toNat := by unfold u8; omega
 have h2 := y.toNat_lt
 rw [h.cell, h1]
 exact (tabTo_get 256 y.toNat (by omega)).trans (by rw [if_pos (by omega)])
set_option maxHeartbeats 1000000 in
theorem update_c (s : BitVec 32) (v : Value) (l : List UInt8) (w : World) (h : Bs w v l) :
 Calls Tryz.prog 115 #[.int .u32 (u32 s), v] w fun e w' => e = .returned (.int .u32 (u32 (upd s l))) ∧ Below w.heap.size w w' := by
 obtain ⟨A, c, rfl, hc, hm⟩ := h.form
 generalize hn : l.length = n at *
 have Hn := hide hn
 clear hn
 have HZ := hide zero_tab
 go_enter Tryz.func115, Tryz.ntmps115
 go_wp2_with fail
 refine (table_c _).mono ?_
 rintro e w1 ⟨rfl, hb⟩
 have hz := HZ.out w1
 go_upto_region 2 with (first
  | (refine wpList_store_mid rfl 164 _ _ rfl w1.heap.size 0 tabAll rfl rfl ((Blk.new w1 164 tabZero).there size_eq) size_tab (tabTo_one 256) ?_))
 obtain ⟨h3, h4⟩ := (Blk.new w1 164 tabZero).over (cs := tabAll) size_eq
 have hb2 : Below w.heap.size w ((w1.alloc (.cells tabZero 164)).setCells w1.heap.size 0 tabAll.toList) := below_grown (hb.alloc hb.size _) h4 (by simp; have := hb.size; omega) hb.size
 have hm : bits BinOp.xor IntKind.u32 (if IntKind.u32.signed = true then -1 else IntKind.u32.max) (u32 s) = u32 (~~~ s) := u32_not s
 rw [hm]
 clear hm h4 hz
 generalize w1.heap.size = g at *
 generalize (w1.alloc (.cells tabZero 164)).setCells g 0 tabAll.toList = w2 at *
 have h2 := h.step hb2
 go_wp2_with fail
 go_loop [6, 14] (fun x i => ∃ k : Nat, k ≤ n ∧ i = .int .i64 k ∧ x = .int .u32 (u32 (reg (~~~ s) (l.take k)))) (fun _ i => n - (intOf i).toNat)
 case atStart => exact ⟨0, Nat.zero_le _, rfl, rfl⟩
 case round =>
  obtain ⟨k, hk, rfl, rfl⟩ := hrel
  by_cases hlt : k < n
  ·obtain ⟨b, off, y, rfl, hbl, hy, hcell⟩ := h2.at_ hlt
   have HS := hide (reg_take_succ (~~~ s) l k y hy)
   clear hy
   generalize reg (~~~ s) (l.take k) = R at *
   have hx := lo_xor R y
   have ht := tab_cell h3 (lo8 R ^^^ y)
   have HT := hide (step_spell R y)
   generalize lo8 R ^^^ y = yy at *
   have ⟨hl0, hl1⟩ := u8_lt yy
   go_wp2_with fail
   go_round
   case rel => exact ⟨k + 1, by omega, by go_num, by rw [HS.out, ← HT.out]⟩
   case measure => simp [intOf]; omega
  ·obtain rfl : k = n := by omega
   rw [List.take_of_length_le (by rw [Hn.out]; exact Nat.le_refl _)]
   go_wp2_with fail
   go_ret
   exact ⟨by unfold upd; rw [← u32_not]; rfl, hb2⟩
theorem sum_c (v : Value) (l : List UInt8) (w : World) (h : Bs w v l) :
 Calls Tryz.prog 103 #[v] w fun e w' => e = .returned (.int .u32 (u32 (upd 0#32 l))) ∧ Below w.heap.size w w' := by
 have H := hide h
 clear h
 go_enter Tryz.func103, Tryz.ntmps103
 go_wp2_with fail
 refine (update_c 0#32 _ l _ H.out).mono ?_
 rintro e w1 ⟨rfl, hb⟩
 go_wp2_with fail
 go_ret
 exact ⟨rfl, hb⟩
theorem refUpdate_c (s : BitVec 32) (v : Value) (l : List UInt8) (w : World) (h : Bs w v l) :
 Calls Tryz.prog 116 #[.int .u32 (u32 s), v] w fun e w' => e = .returned (.int .u32 (u32 (upd s l))) ∧ w = w' := by
 have H := hide h
 clear h
 have hm := u32_not s
 go_enter Tryz.func116, Tryz.ntmps116
 go_wp2_with fail
 refine (register_c (~~~ s) _ l _ H.out).mono ?_
 rintro e w1 ⟨rfl, rfl⟩
 go_wp2_with fail
 go_ret
 exact ⟨by unfold upd; rw [← u32_not]; rfl, rfl⟩
theorem refSum_c (v : Value) (l : List UInt8) (w : World) (h : Bs w v l) :
 Calls Tryz.prog 105 #[v] w fun e w' => e = .returned (.int .u32 (u32 (upd 0#32 l))) ∧ w = w' := by
 have H := hide h
 clear h
 go_enter Tryz.func105, Tryz.ntmps105
 go_wp2_with fail
 refine (refUpdate_c 0#32 _ l _ H.out).mono ?_
 rintro e w1 ⟨rfl, rfl⟩
 go_wp2_with fail
 go_ret
 exact ⟨rfl, rfl⟩
end
end Go.Proofs.YtpadgkkeihhneaaGreat
