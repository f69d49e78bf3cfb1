/- append of a number of zero bytes, or of none, onto an own slice that is not nil; what came in as a list of byte strings. -/
import Derived.Test.YtpadgkkeihhneaaGreatC01
import Derived.Test.YtpadgkkeihhneaaGreatC06
import Derived.Deep.Slices
namespace Go.Proofs.YtpadgkkeihhneaaGreat
set_option maxRecDepth 100000
set_option linter.unusedSimpArgs false
set_option linter.unusedVariables false
open Go.ChangeShapes Go.WideShapes Go.ChangeAt Go.RowKit
theorem run_append_zerosN {w : World} (base : Nat) (ty : TypeId) {v : Value} {l : List UInt8} (hv : Ow w base v l) (hne : v.ownBlock ≠ none) (k : Nat) (hk : l.length + k ≤ 1000) (hbase : base ≤ w.heap.size) :
 ∃ v' w', (Builtin.append_ #[35, 3] ty #[v, .int .i64 k]).run Tryz.prog w = .ok v' w' ∧ Ow w' base v' (l ++ List.replicate k 0) ∧ w.grownBy w' v.ownBlock ∧ (v'.ownBlock = v.ownBlock ∨ v'.ownBlock = some w.heap.size) := by
 obtain ⟨i0, hi0, hz0, hz1, hz2⟩ := info_parts info_u8
 have hv0 := hv
 obtain ⟨hl, ⟨rfl, h00⟩ | ⟨g, cap, cur, rfl, hg, hh, hn, hm, hs, ht⟩⟩ := hv
 ·exact absurd rfl hne
 ·rw [Nat.mul_one] at hs ht
  by_cases h0 : 0 < k
  case neg =>
   obtain rfl : k = 0 := by omega
   refine ⟨_, _, ?_, by rw [List.replicate_zero, List.append_nil]; exact hv0, ⟨rfl, rfl, rfl, Nat.le_refl _, fun _ _ _ => rfl⟩, .inl rfl⟩
   simp [Builtin.append_, run_underlying Tryz.underlying35, run_underlying Tryz.underlying3, sizeOf, typeInfo, zeroValue, hi0, hz0, hz1, asInt, asIntOf, IntKind.wrap_i64, if_pos hn, storeCells]
  have hone : ∀ u ∈ (List.replicate k (0 : UInt8)).map bv, u.oneCell' = true := fun u hu => by obtain ⟨x, _, rfl⟩ := List.mem_map.1 hu; exact bv_one x
  have hk0 : k ≠ 0 := by omega
  have hw : IntKind.i64.wrap (k : Int) = k := by rw [IntKind.wrap_i64]; omega
  have hneg : ¬ ((k : Int) < 0) := by omega
  by_cases hroom : l.length + k ≤ cap
  ·have hc : ∀ j, j < ((List.replicate k (0 : UInt8)).map bv).length → (w.cell? ⟨g, l.length + 0 + j, none⟩).isSome = true := fun j hj => by
    simp at hj
    rw [cell_of_row w g _ cur _ _ hh, Array.getElem?_eq_getElem (by omega)]; rfl
   have hst := run_storeCells_cells (P := Tryz.prog) g l.length ((List.replicate k (0 : UInt8)).map bv) 0 w hc (fun j hj => by simp [World.frozen?, hh]) hone
   simp only [Nat.add_zero] at hst
   have h48i : ¬ (281474976710656 < (k : Int) * (i0.bytes : Int)) := by rw [hz2]; omega
   have hzc := zeroCells_u8 k
   have hr : (Builtin.append_ #[35, 3] ty #[.slice (some ⟨g, 0, none⟩) l.length cap, .int .i64 k]).run Tryz.prog w = .ok (.slice (some ⟨g, 0, none⟩) (l.length + k) cap) (w.setCells g l.length ((List.replicate k (0 : UInt8)).map bv)) := by
    simp [Builtin.append_, run_underlying Tryz.underlying35, run_underlying Tryz.underlying3, sizeOf, typeInfo, zeroValue, hi0, hz0, hz1, asInt, asIntOf, hw, hneg, hk0, h48i, hroom, Addr.add_lit, hzc]
    rw [List.map_replicate] at hst
    rw [hst]; rfl
   have hB : Blk w g 5 cur := hh
   have hB2 := Blk.setCells ((List.replicate k (0 : UInt8)).map bv) l.length w cur hB (by simp; omega)
   refine ⟨_, _, hr, ⟨by simp, .inr ⟨g, cap, _, by simp, hg, hB2, by simpa using hroom, hm, ?_, ?_⟩⟩, (touch_setCells w g _ _).1.of_one, .inl rfl⟩
   ·simp; omega
   ·rw [Nat.mul_one, ht, show (l ++ List.replicate k (0 : UInt8)).length = (l.map bv ++ (List.replicate k (0 : UInt8)).map bv).length by simp]
    show List.take _ (l.map bv ++ (List.replicate k (0 : UInt8)).map bv ++ _) = _
    rw [List.take_append_of_le_length (Nat.le_refl _), List.take_of_length_le (Nat.le_refl _)]
    simp
  ·obtain ⟨hfc⟩ : Nonempty ((Builtin.firstCells i0.size l.length (.slice (some ⟨g, 0, none⟩) l.length cap)).run Tryz.prog w.drew = .ok (l.map bv).toArray w.drew) :=
    ⟨run_firstCells_some w.drew i0.size l.length ⟨g, 0, none⟩ l.length cap (l.map bv) (by simp [hz1]) (by simpa using World.ownsRow.cells hv0 (g := g) rfl)⟩
   have hr := Lib.run_append_grow_zeros (P := Tryz.prog) w 35 3 ty 5 i0 (.int .u8 0) .i64 .i64 Tryz.underlying35 Tryz.underlying3 hi0 hz0 (some ⟨g, 0, none⟩) l.length cap (l.map bv) hfc k h0 (by omega) (by omega) (by omega) (by rw [hz2]; omega)
    (growslice_fits (by omega) (by rw [hz2]; omega))
   have hle : l.length + k ≤ grownCap w (l.length + k) cap 5 := grownCap_ge w _ cap _
   refine ⟨_, _, hr, ⟨by simp, .inr ⟨w.heap.size, _, _, by simp, by omega, heap_alloc_new w.drew _, by simpa using hle, grownCap_le_maxLen w (l.length + k) cap 5 (by unfold maxLen; omega), ?_, ?_⟩⟩, grown_alloc (grown_drew (grown_refl _ _)) _, .inr rfl⟩
   ·simp [size_zeroCells, Value.cells]; omega
   ·rw [zeroCells_u8, Nat.mul_one, show (l ++ List.replicate k (0 : UInt8)).length = (l.map bv ++ (List.replicate k (0 : UInt8)).map bv).length by simp]
    simp only [Array.toList_append]
    rw [List.take_append_of_le_length (by simp), List.take_of_length_le (by simp)]
    simp
/-- What came in as a list of byte strings. -/
def BssIn (w : World) (v : Value) (l : List (List UInt8)) : Prop :=
 ∃ A c, v = .slice A l.length c ∧ l.length ≤ c ∧ c ≤ maxLen ∧
  (0 < l.length → ∃ g o, A = some ⟨g, o, none⟩ ∧ g < w.heap.size ∧ ∀ i (h : i < l.length), ∃ u, w.cell? ⟨g, o + i, none⟩ = some u ∧ Bs w u l[i])
theorem BssIn.form {w : World} {v : Value} {l : List (List UInt8)} (h : BssIn w v l) : ∃ A m c, v = .slice A m c ∧ Hid (m = l.length) ∧ m ≤ c ∧ c ≤ 9223372036854775807 := by
 obtain ⟨A, c, e, h1, h2, _⟩ := h; exact ⟨A, _, c, e, rfl, h1, by unfold maxLen at h2; omega⟩
theorem BssIn.at_ {w w' : World} {A : Option Addr} {m c : Nat} {l : List (List UInt8)} (h : BssIn w (.slice A m c) l) (k : Below w.heap.size w w') (i : Nat) (hi : i < l.length) :
 ∃ g o A1 m1 c1, A = some ⟨g, o, none⟩ ∧ w'.cell? ⟨g, o + i, none⟩ = some (.slice A1 m1 c1) ∧ Bs w' (.slice A1 m1 c1) l[i] := by
 obtain ⟨A', c', e, h1, h2, h4⟩ := h
 obtain ⟨rfl, rfl, rfl⟩ : A = A' ∧ m = l.length ∧ c = c' := by injection e with e1 e2 e3; exact ⟨e1, e2, e3⟩
 obtain ⟨g, o, rfl, hg, hc⟩ := h4 (by omega)
 obtain ⟨u, hu, hb⟩ := hc i hi
 obtain ⟨A1, m1, c1, rfl, _⟩ := hb.formN
 exact ⟨g, o, A1, m1, c1, rfl, (k.cell (p := ⟨g, o + i, none⟩) hg).trans hu, hb.step k⟩
theorem open_bytes1 {H : Type} {enc : TypeId × Value → H} {W : World} {fuel : Nat} {cs : List Value} {x : DataW H × List MemPlace} (h : DataW.trod enc Tryz.prog W 0 (fun _ => true) true fuel 35 cs = some x) : ∃ v l, cs = [v] ∧ Bs W v l := by
 rcases open_ints Tryz.underlying35 Tryz.underlying5 (by kernel_rfl) h with ⟨rfl, _⟩ | ⟨a, len, cap, zs, rfl, _, hl, hm, hz, _, hcell, hwf⟩
 ·exact ⟨_, [], rfl, Bs.nil W⟩
 ·simp at hz
  have hlen : (zs.take len).length = len := by rw [List.length_take]; omega
  refine ⟨_, (zs.take len).map fun n => UInt8.ofNat n.toNat, rfl, some a, cap, by rw [List.length_map, hlen], by rw [List.length_map]; omega, hm, fun h0 => ?_⟩
  rw [List.length_map, hlen] at h0
  obtain ⟨e1, e2⟩ := cell_plain (hcell 0 (by omega))
  have e3 : a = ⟨a.block, a.off, none⟩ := by
   obtain ⟨b, o, s⟩ := a
   have := congrArg Addr.spot e1
   simp only [Addr.add] at this
   simp at this
   simp [this]
  refine ⟨a.block, a.off, by rw [← e3], ?_, fun j hj => ?_⟩
  ·have : (a.add 0).block = a.block := by simp [Addr.add]
   omega
  ·rw [List.length_map, hlen] at hj
   have hc := hcell j (by omega)
   rw [e3, add_plain] at hc
   have hjz : j < (zs.take len).length := by omega
   have hw := hwf (zs.take len)[j] (List.mem_of_mem_take (List.getElem_mem hjz))
   have ⟨w0, w1⟩ : 0 ≤ (zs.take len)[j] ∧ (zs.take len)[j] ≤ 255 := by simpa [Lit.wf, IntKind.min, IntKind.max, IntKind.signed, IntKind.bits] using hw
   have hg : zs.getD j 0 = (zs.take len)[j] := by
    rw [List.getElem_take, List.getD_eq_getElem?_getD, List.getElem?_eq_getElem (by omega)]; rfl
   rw [hc, hg]
   simp only [bv, u8, List.getElem_map, UInt8.toNat_ofNat']
   congr 2
   omega
theorem open_bss {H : Type} {enc : TypeId × Value → H} {W : World} {r : Reach} {b0 : Nat} {v : Value} {d : DataW H} {p : List MemPlace}
 (hv : Value.okWide Tryz.prog W r b0 22 v) (h : DataW.Trod enc Tryz.prog W 0 (fun _ => true) true 22 v d p) : ∃ l, BssIn W v l := by
 obtain ⟨a, n, c, rfl⟩ := okWide_slice Tryz.underlying22 hv
 obtain ⟨fuel, hf⟩ := h
 have c1 : Tryz.prog.cellsOf 35 = 1 := by kernel_rfl
 rcases Go.Deep.open_slice Tryz.underlying22 hf with ⟨hcs, _⟩ | ⟨a', len, cap, m, nn, D, Pl, hcs, _, hl, hm, hmm, _, hx⟩
 ·simp [Value.cells] at hcs
  obtain ⟨rfl, rfl, rfl⟩ := hcs
  exact ⟨[], none, 0, rfl, Nat.le_refl _, by unfold maxLen; omega, fun h => by simp at h⟩
 ·simp [Value.cells] at hcs
  obtain ⟨rfl, rfl, rfl⟩ := hcs
  simp at hmm
  subst hmm
  obtain ⟨X, hX⟩ := Go.Deep.choose_lt (α := Value × List UInt8) (n := n) (p := fun i o => Bs W o.1 o.2 ∧ W.cell? (a'.add i) = some o.1) (fun i hi => by
   obtain ⟨cs', h1, h2⟩ := hx i (by omega)
   rw [c1, Nat.mul_one] at h1
   obtain ⟨_, hlen, hc⟩ := World.cells?_some h1
   obtain ⟨u, l, rfl, hok⟩ := open_bytes1 h2
   refine ⟨(u, l), hok, ?_⟩
   have h3 := hc 0 (by decide)
   have e0 : ((a'.add i).add 0) = a'.add i := by unfold Addr.add; split <;> simp_all
   rw [e0] at h3
   exact h3)
  have hll : ((List.range n).map fun i => (X i).2).length = n := by simp
  refine ⟨(List.range n).map fun i => (X i).2, some a', m, by rw [hll], by omega, hm, fun h0 => ?_⟩
  rw [hll] at h0
  have hc0 := (hX 0 h0).2
  have hpl : ∃ A1 m1 k1, (X 0).1 = .slice A1 m1 k1 := by
   obtain ⟨A1, m1, k1, e, _⟩ := (hX 0 h0).1.formN
   exact ⟨_, _, _, e⟩
  obtain ⟨A1, m1, k1, hpl⟩ := hpl
  rw [hpl] at hc0
  have hsp : a'.spot = none := by
   have e1 := (cell_plain (v := .slice A1 m1 k1) hc0).1
   obtain ⟨b, o, s⟩ := a'
   have := congrArg Addr.spot e1
   simp only [Addr.add] at this
   simpa using this
  obtain ⟨b, o, s⟩ := a'
  simp only at hsp
  subst hsp
  have hbl := (cell_plain (v := .slice A1 m1 k1) hc0).2
  refine ⟨b, o, rfl, by simpa [Addr.add] using hbl, fun i hi => ?_⟩
  rw [hll] at hi
  obtain ⟨h1, h2⟩ := hX i hi
  rw [add_plain] at h2
  exact ⟨_, h2, by simpa using h1⟩
end Go.Proofs.YtpadgkkeihhneaaGreat
