/- What came in as a list of operations, or as one. -/
import Derived.Test.YtpbgelhjbfckcaaOps
import Derived.Test.YtpbgelhjbfckcaaFlat
import Derived.Deep.Slices
namespace Go.Proofs.Ytpbgelhjbfckcaa
open Go.ChangeShapes Go.WideShapes Go.ChangeAt Go.RowKit
set_option linter.unusedVariables false
set_option linter.unusedSimpArgs false

def kI : Kd := .i .i64
/-- The kinds of an operation's cells. -/
def opKinds : List Kd := [kI, kI, kI, .s, kI, kI, kI, kI, kI, kI, .s, kI, kI, kI, kI, kI, .l, .l, kI, kI, kI, kI, kI, kI, kI, kI, kI, kI, kI, kI, kI, .l, .l, .l, .l, .l, .l, .l, .l, kI, kI, kI, kI, kI, kI, kI, kI, .b, .l, kI, .s, .b, .b]
theorem op_kinds : flatK Try.prog 10 43 = some opKinds := by kernel_rfl
theorem wf_i64 {n : Int} (h : (Lit.int .i64 n).wf = true) : -9223372036854775808 ≤ n ∧ n ≤ 9223372036854775807 := by
  simpa [Lit.wf, IntKind.min, IntKind.max, IntKind.signed, IntKind.bits] using h
theorem fit_op {cs : List Value} (h : Fit2 opKinds cs) : ∃ x : OpV, cs = x.cells ∧ x.Ok := by
  have hl := h.len
  obtain ⟨v0, h0, z0, rfl, w0⟩ := h.at 0 rfl
  obtain ⟨v1, h1, z1, rfl, w1⟩ := h.at 1 rfl
  obtain ⟨v2, h2, z2, rfl, w2⟩ := h.at 2 rfl
  obtain ⟨v3, h3, z3, rfl, w3⟩ := h.at 3 rfl
  obtain ⟨v4, h4, z4, rfl, w4⟩ := h.at 4 rfl
  obtain ⟨v5, h5, z5, rfl, w5⟩ := h.at 5 rfl
  obtain ⟨v6, h6, z6, rfl, w6⟩ := h.at 6 rfl
  obtain ⟨v7, h7, z7, rfl, w7⟩ := h.at 7 rfl
  obtain ⟨v8, h8, z8, rfl, w8⟩ := h.at 8 rfl
  obtain ⟨v9, h9, z9, rfl, w9⟩ := h.at 9 rfl
  obtain ⟨v10, h10, z10, rfl, w10⟩ := h.at 10 rfl
  obtain ⟨v11, h11, z11, rfl, w11⟩ := h.at 11 rfl
  obtain ⟨v38, h38, A38, n38, c38, rfl, w38, u38⟩ := h.at 38 rfl
  obtain ⟨v48, h48, A48, n48, c48, rfl, w48, u48⟩ := h.at 48 rfl
  obtain ⟨v50, h50, z50, rfl, w50⟩ := h.at 50 rfl
  obtain ⟨v52, h52, z52, rfl⟩ := h.at 52 rfl
  have hones := h.ones
  have hl' : cs.length = 53 := hl
  let mv : MV := ⟨z5, z6, z7, z8, z9, z10, z11, (cs.drop 12).take 40⟩
  have hrest : ∀ i, i < 40 → mv.rest[i]? = cs[12 + i]? := fun i hi => by
    show ((cs.drop 12).take 40)[i]? = _
    rw [List.getElem?_take, if_pos hi, List.getElem?_drop]
  have hrl : mv.rest.length = 40 := by
    show ((cs.drop 12).take 40).length = 40
    simp [hl']
  refine ⟨⟨z0, z1, z2, z3, z4, mv, z52⟩, ?_, ⟨⟨hrl, fun v hv => hones v (List.mem_of_mem_drop (List.mem_of_mem_take hv)), wf_i64 w11⟩, w3, w10, ⟨A38, n38, c38, by rw [hrest 26 (by omega)]; exact h38, by omega⟩, ⟨A48, n48, c48, by rw [hrest 36 (by omega)]; exact h48, by omega⟩, ⟨z50, by rw [hrest 38 (by omega)]; exact h50, w50⟩⟩⟩
  refine List.ext_getElem? fun i => ?_
  match i with
  | 0 => exact h0
  | 1 => exact h1
  | 2 => exact h2
  | 3 => exact h3
  | 4 => exact h4
  | 5 => exact h5
  | 6 => exact h6
  | 7 => exact h7
  | 8 => exact h8
  | 9 => exact h9
  | 10 => exact h10
  | 11 => exact h11
  | i + 12 =>
    show cs[i + 12]? = (mv.rest ++ [Value.bool z52])[i]?
    by_cases hi : i < 40
    · rw [List.getElem?_append_left (by omega), hrest i hi, Nat.add_comm]
    · rw [List.getElem?_append_right (by omega), hrl]
      by_cases hi2 : i = 40
      · subst hi2; exact h52
      · rw [List.getElem?_eq_none (by omega), List.getElem?_eq_none (by simp; omega)]
set_option maxRecDepth 100000 in
theorem open_opc {H : Type} {enc : TypeId × Value → H} {W : World} {fuel : Nat} {cs : List Value} {x : DataW H × List MemPlace} (h : DataW.trod enc Try.prog W 0 (fun _ => true) true fuel 43 cs = some x) : ∃ o : OpV, cs = o.cells ∧ o.Ok :=
  fit_op (flat_fits 10 fuel _ _ _ _ op_kinds h)
instance : Inhabited OpV := ⟨⟨0, 0, 0, ⟨#[]⟩, 0, ⟨0, 0, 0, 0, 0, ⟨#[]⟩, 0, []⟩, false⟩⟩
set_option maxRecDepth 100000 in
theorem open_ops {H : Type} {enc : TypeId × Value → H} {W : World} {r : Reach} {b0 : Nat} {v : Value} {d : DataW H} {p : List MemPlace}
    (hv : Value.okWide Try.prog W r b0 26 v) (h : DataW.Trod enc Try.prog W 0 (fun _ => true) true 26 v d p) : ∃ l, OpsIn W v l := by
  obtain ⟨a, n, c, rfl⟩ := okWide_slice Try.underlying26 hv
  obtain ⟨fuel, hf⟩ := h
  have c53 : Try.prog.cellsOf 43 = 53 := by kernel_rfl
  rcases Go.Deep.open_slice Try.underlying26 hf with ⟨hcs, _⟩ | ⟨a', len, cap, m, nn, D, Pl, hcs, _, hl, hm, hmm, _, hx⟩
  · simp [Value.cells] at hcs
    obtain ⟨rfl, rfl, rfl⟩ := hcs
    exact ⟨[], none, 0, rfl, Nat.le_refl _, by unfold maxLen; omega, (fun x hx => by cases hx), fun h => by simp at h⟩
  · simp [Value.cells] at hcs
    obtain ⟨rfl, rfl, rfl⟩ := hcs
    simp at hmm
    subst hmm
    obtain ⟨X, hX⟩ := Go.Deep.choose_lt (α := OpV) (n := n) (p := fun i o => o.Ok ∧ ∀ j, j < 53 → W.cell? ((a'.add (i * 53)).add j) = o.cells[j]?) (fun i hi => by
      obtain ⟨cs', h1, h2⟩ := hx i (by omega)
      rw [c53] at h1
      obtain ⟨_, hlen, hc⟩ := World.cells?_some h1
      obtain ⟨o, rfl, hok⟩ := open_opc h2
      exact ⟨o, hok, fun j hj => hc j hj⟩)
    have hll : ((List.range n).map X).length = n := by simp
    refine ⟨(List.range n).map X, some a', m, by rw [hll], by omega, hm, fun x hx => ?_, fun h0 => ?_⟩
    · obtain ⟨i, hi, rfl⟩ := List.mem_map.1 hx
      exact (hX i (List.mem_range.1 hi)).1
    · rw [hll] at h0
      have hc0 := (hX 0 h0).2 0 (by decide)
      rw [Nat.zero_mul] at hc0
      have hsp : a'.spot = none := by
        have e1 := (cell_plain (v := .int .i64 (X 0).kind) hc0).1
        obtain ⟨b, o, s⟩ := a'
        have := congrArg Addr.spot e1
        simp only [Addr.add] at this
        simpa using this
      obtain ⟨b, o, s⟩ := a'
      simp only at hsp
      subst hsp
      have hbl := (cell_plain (v := .int .i64 (X 0).kind) hc0).2
      refine ⟨b, o, rfl, ?_, fun i hi j v hj => ?_⟩
      · simpa [Addr.add] using hbl
      · rw [hll] at hi
        have hjl : j < 53 := by
          have := (List.getElem?_eq_some_iff.1 hj).1
          rw [List.getElem_map, List.getElem_range, ((hX i hi).1).size] at this
          exact this
        have hh := (hX i hi).2 j hjl
        rw [add_plain, add_plain] at hh
        rw [hh]
        rw [List.getElem_map, List.getElem_range] at hj
        exact hj
set_option maxRecDepth 100000 in
theorem open_op1 {H : Type} {enc : TypeId × Value → H} {W : World} {r : Reach} {b0 : Nat} {v : Value} {d : DataW H} {p : List MemPlace}
    (hv : Value.okWide Try.prog W r b0 43 v) (h : DataW.Trod enc Try.prog W 0 (fun _ => true) true 43 v d p) : ∃ x : OpV, v = .agg x.cells.toArray ∧ x.Ok := by
  obtain ⟨fuel, hf⟩ := h
  obtain ⟨x, hx, hok⟩ := open_opc hf
  refine ⟨x, ?_, hok⟩
  cases v with
  | agg cs =>
    have : cs.toList = x.cells := hx
    rw [← this]
  | _ =>
    have h1 := congrArg List.length hx
    rw [hok.size] at h1
    simp [Value.cells] at h1
end Go.Proofs.Ytpbgelhjbfckcaa
