/- What came in as a list of operations. -/
import Derived.Test.YtlpnichgfhgdmaaStep3
import Derived.Deep.Slices
namespace Go.Proofs.Ytlpnichgfhgdmaa
open Go.ChangeShapes Go.WideShapes Go.ChangeAt Go.RowKit
set_option linter.unusedVariables false
set_option linter.unusedSimpArgs false

instance : Inhabited OpV := ⟨⟨0, 0, 0, 0, 0, .bool false, []⟩⟩
theorem open_is {H : Type} {enc : TypeId × Value → H} {W : World} {fuel : Nat} {cs : List Value} {x : DataW H × List MemPlace} (h : DataW.trod enc Try.prog W 0 (fun _ => true) true fuel 43 cs = some x) : ∃ v l, cs = [v] ∧ Is W v l := by
  rcases open_ints Try.underlying43 Try.underlying3 (by kernel_rfl) h with ⟨rfl, _⟩ | ⟨a, len, cap, zs, rfl, _, hl, hm, hz, _, hcell, hwf⟩
  · exact ⟨_, [], rfl, Is.nil W⟩
  · simp at hz
    have hlen : (zs.take len).length = len := by rw [List.length_take]; omega
    refine ⟨_, zs.take len, rfl, some a, cap, by rw [hlen], by omega, hm, fun n hn => ?_, fun h0 => ?_⟩
    · have := hwf n (List.mem_of_mem_take hn)
      simpa [Lit.wf, IntKind.min, IntKind.max, IntKind.signed, IntKind.bits] using this
    · rw [hlen] at h0
      obtain ⟨e1, e2⟩ := cell_plain (hcell 0 (by omega))
      have e3 : a = ⟨a.block, a.off, none⟩ := by
        obtain ⟨b, o, s⟩ := a
        have := congrArg Addr.spot e1
        simp only [Addr.add] at this
        simp at this
        simp [this]
      refine ⟨a.block, a.off, by rw [← e3], ?_, fun j u hj => ?_⟩
      · have : (a.add 0).block = a.block := by simp [Addr.add]
        omega
      · rw [List.getElem?_map] at hj
        cases hq : (zs.take len)[j]? with
        | none => rw [hq] at hj; cases hj
        | some y =>
          rw [hq] at hj
          have hjl := (List.getElem?_eq_some_iff.1 hq).1
          rw [hlen] at hjl
          have hc := hcell j (by omega)
          rw [e3, add_plain] at hc
          rw [hc]
          rw [List.getElem?_take, if_pos hjl] at hq
          simp only [List.getD, hq]
          exact hj
theorem open_op {H : Type} {enc : TypeId × Value → H} {W : World} {fuel : Nat} {cs : List Value} {x : DataW H × List MemPlace} (h : DataW.trod enc Try.prog W 0 (fun _ => true) true fuel 45 cs = some x) : ∃ o : OpV, cs = o.cells ∧ o.Ok W := by
  obtain ⟨xs, n, _, _, hlen, hxl, hf⟩ := DataW.trod_struct Try.underlying45 h
  have c6 : Try.prog.cellsOf 45 = 6 := by kernel_rfl
  have ci : Try.prog.cellsOf 3 = 1 := by kernel_rfl
  have cu : Try.prog.cellsOf 5 = 1 := by kernel_rfl
  have cl : Try.prog.cellsOf 43 = 1 := by kernel_rfl
  rw [c6] at hlen
  match cs, hlen with
  | [v0, v1, v2, v3, v4, v5], _ =>
    have hx : ∀ i, i < 6 → ∃ y, xs[i]? = some y := fun i hi => ⟨_, List.getElem?_eq_getElem (by rw [hxl]; exact hi)⟩
    have f0 : DataW.trod enc Try.prog W 0 (fun _ => true) true n 3 (([v0, v1, v2, v3, v4, v5].drop 0).take (Try.prog.cellsOf 3)) = xs[0]? := hf 0 _ rfl
    have f1 : DataW.trod enc Try.prog W 0 (fun _ => true) true n 3 (([v0, v1, v2, v3, v4, v5].drop 1).take (Try.prog.cellsOf 3)) = xs[1]? := hf 1 _ rfl
    have f2 : DataW.trod enc Try.prog W 0 (fun _ => true) true n 3 (([v0, v1, v2, v3, v4, v5].drop 2).take (Try.prog.cellsOf 3)) = xs[2]? := hf 2 _ rfl
    have f3 : DataW.trod enc Try.prog W 0 (fun _ => true) true n 5 (([v0, v1, v2, v3, v4, v5].drop 3).take (Try.prog.cellsOf 5)) = xs[3]? := hf 3 _ rfl
    have f4 : DataW.trod enc Try.prog W 0 (fun _ => true) true n 5 (([v0, v1, v2, v3, v4, v5].drop 4).take (Try.prog.cellsOf 5)) = xs[4]? := hf 4 _ rfl
    have f5 : DataW.trod enc Try.prog W 0 (fun _ => true) true n 43 (([v0, v1, v2, v3, v4, v5].drop 5).take (Try.prog.cellsOf 43)) = xs[5]? := hf 5 _ rfl
    obtain ⟨y0, e0⟩ := hx 0 (by decide)
    obtain ⟨y1, e1⟩ := hx 1 (by decide)
    obtain ⟨y2, e2⟩ := hx 2 (by decide)
    obtain ⟨y3, e3⟩ := hx 3 (by decide)
    obtain ⟨y4, e4⟩ := hx 4 (by decide)
    obtain ⟨y5, e5⟩ := hx 5 (by decide)
    rw [e0] at f0
    rw [e1] at f1
    rw [e2] at f2
    rw [e3] at f3
    rw [e4] at f4
    rw [e5] at f5
    simp only [ci, cu, cl, List.drop_zero, List.drop_succ_cons, List.take_succ_cons, List.take_zero] at f0 f1 f2 f3 f4 f5
    obtain ⟨z0, h0, _, w0⟩ := DataW.trod_int Try.underlying3 f0
    obtain ⟨z1, h1, _, w1⟩ := DataW.trod_int Try.underlying3 f1
    obtain ⟨z2, h2, _, w2⟩ := DataW.trod_int Try.underlying3 f2
    obtain ⟨z3, h3, _, w3⟩ := DataW.trod_int Try.underlying5 f3
    obtain ⟨z4, h4, _, w4⟩ := DataW.trod_int Try.underlying5 f4
    obtain ⟨v, l, h5, hi⟩ := open_is f5
    cases h0; cases h1; cases h2; cases h3; cases h4; cases h5
    exact ⟨⟨z0, z1, z2, z3, z4, v5, l⟩, rfl, by simpa [Lit.wf, IntKind.min, IntKind.max, IntKind.signed, IntKind.bits] using w1, by simpa [Lit.wf, IntKind.min, IntKind.max, IntKind.signed, IntKind.bits] using w2,
      by simpa [Lit.wf, IntKind.min, IntKind.max, IntKind.signed, IntKind.bits] using w3, by simpa [Lit.wf, IntKind.min, IntKind.max, IntKind.signed, IntKind.bits] using w4, hi⟩
theorem open_ops {H : Type} {enc : TypeId × Value → H} {W : World} {r : Reach} {b0 : Nat} {v : Value} {d : DataW H} {p : List MemPlace}
    (hv : Value.okWide Try.prog W r b0 39 v) (h : DataW.Trod enc Try.prog W 0 (fun _ => true) true 39 v d p) : ∃ l, OpsIn W v l := by
  obtain ⟨a, n, c, rfl⟩ := okWide_slice Try.underlying39 hv
  obtain ⟨fuel, hf⟩ := h
  have c6 : Try.prog.cellsOf 45 = 6 := by kernel_rfl
  rcases Go.Deep.open_slice Try.underlying39 hf with ⟨hcs, _⟩ | ⟨a', len, cap, m, nn, D, Pl, hcs, _, hl, hm, hmm, _, hx⟩
  · simp [Value.cells] at hcs
    obtain ⟨rfl, rfl, rfl⟩ := hcs
    exact ⟨[], none, 0, rfl, Nat.le_refl _, by unfold maxLen; omega, (fun x hx => by cases hx), fun h => by simp at h⟩
  · simp [Value.cells] at hcs
    obtain ⟨rfl, rfl, rfl⟩ := hcs
    simp at hmm
    subst hmm
    obtain ⟨X, hX⟩ := Go.Deep.choose_lt (α := OpV) (n := n) (p := fun i o => o.Ok W ∧ ∀ j, j < 6 → W.cell? ((a'.add (i * 6)).add j) = o.cells[j]?) (fun i hi => by
      obtain ⟨cs', h1, h2⟩ := hx i (by omega)
      rw [c6] at h1
      obtain ⟨_, hlen, hc⟩ := World.cells?_some h1
      obtain ⟨o, rfl, hok⟩ := open_op h2
      exact ⟨o, hok, fun j hj => hc j hj⟩)
    have hll : ((List.range n).map X).length = n := by simp
    refine ⟨(List.range n).map X, some a', m, by rw [hll], by omega, hm, fun x hx => ?_, fun h0 => ?_⟩
    · obtain ⟨i, hi, rfl⟩ := List.mem_map.1 hx
      exact (hX i (List.mem_range.1 hi)).1
    · rw [hll] at h0
      have hc0 := (hX 0 h0).2 0 (by decide)
      rw [Nat.zero_mul] at hc0
      have hsp : a'.spot = none := by
        have e1 := (cell_plain (v := .int .i64 (X 0).kind) hc0).1
        obtain ⟨b, o, s⟩ := a'
        have := congrArg Addr.spot e1
        simp only [Addr.add] at this
        simpa using this
      obtain ⟨b, o, s⟩ := a'
      simp only at hsp
      subst hsp
      have hbl := (cell_plain (v := .int .i64 (X 0).kind) hc0).2
      refine ⟨b, o, rfl, ?_, fun i hi j hj => ?_⟩
      · simpa [Addr.add] using hbl
      · rw [hll] at hi
        have hh := (hX i hi).2 j hj
        rw [add_plain, add_plain] at hh
        rw [hh]
        simp
end Go.Proofs.Ytlpnichgfhgdmaa
