/- What came in as a message, with all that it reaches; how long it is. -/
import Derived.Test.YtpbgelhjbfckcaaV35
import Derived.Deep.Slices
namespace Go.Proofs.Ytpbgelhjbfckcaa
set_option maxRecDepth 100000
set_option linter.unusedVariables false
set_option linter.unusedSimpArgs false
open Go.ChangeShapes Go.WideShapes Go.ChangeAt Go.RowKit
abbrev bulk {H : Type} (d : DataW H) : Nat := Rows.uptoBulk d
theorem len3 {α : Type} {l : List α} (h : l.length = 3) : ∃ a0 a1 a2, l = [a0, a1, a2] := by
 match l, h with
 | [a0, a1, a2], _ => exact ⟨a0, a1, a2, rfl⟩
theorem len4 {α : Type} {l : List α} (h : l.length = 4) : ∃ a0 a1 a2 a3, l = [a0, a1, a2, a3] := by
 match l, h with
 | [a0, a1, a2, a3], _ => exact ⟨a0, a1, a2, a3, rfl⟩
theorem len8 {α : Type} {l : List α} (h : l.length = 8) : ∃ a0 a1 a2 a3 a4 a5 a6 a7, l = [a0, a1, a2, a3, a4, a5, a6, a7] := by
 match l, h with
 | [a0, a1, a2, a3, a4, a5, a6, a7], _ => exact ⟨a0, a1, a2, a3, a4, a5, a6, a7, rfl⟩
theorem len11 {α : Type} {l : List α} (h : l.length = 11) : ∃ a0 a1 a2 a3 a4 a5 a6 a7 a8 a9 a10, l = [a0, a1, a2, a3, a4, a5, a6, a7, a8, a9, a10] := by
 match l, h with
 | [a0, a1, a2, a3, a4, a5, a6, a7, a8, a9, a10], _ => exact ⟨a0, a1, a2, a3, a4, a5, a6, a7, a8, a9, a10, rfl⟩
theorem len13 {α : Type} {l : List α} (h : l.length = 13) : ∃ a0 a1 a2 a3 a4 a5 a6 a7 a8 a9 a10 a11 a12, l = [a0, a1, a2, a3, a4, a5, a6, a7, a8, a9, a10, a11, a12] := by
 match l, h with
 | [a0, a1, a2, a3, a4, a5, a6, a7, a8, a9, a10, a11, a12], _ => exact ⟨a0, a1, a2, a3, a4, a5, a6, a7, a8, a9, a10, a11, a12, rfl⟩
theorem len15 {α : Type} {l : List α} (h : l.length = 15) : ∃ a0 a1 a2 a3 a4 a5 a6 a7 a8 a9 a10 a11 a12 a13 a14, l = [a0, a1, a2, a3, a4, a5, a6, a7, a8, a9, a10, a11, a12, a13, a14] := by
 match l, h with
 | [a0, a1, a2, a3, a4, a5, a6, a7, a8, a9, a10, a11, a12, a13, a14], _ => exact ⟨a0, a1, a2, a3, a4, a5, a6, a7, a8, a9, a10, a11, a12, a13, a14, rfl⟩
section
variable {H : Type} {enc : TypeId × Value → H} {W : World}
/-- The cells read as y. -/
def TR (enc : TypeId × Value → H) (W : World) (t : TypeId) (c : List Value) (y : DataW H) : Prop := ∃ m x, DataW.trod enc Try.prog W 0 (fun _ => true) true m t c = some x ∧ x.1 = y
theorem tr_struct {t : TypeId} {fs : Array Field} {c : List Value} {y : DataW H} (ht : Try.prog.underlying t = some (.struct fs)) (h : TR enc W t c y) : ∃ ys : List (DataW H), y = .agg ys ∧ c.length = Try.prog.cellsOf t ∧ ys.length = fs.size ∧
 ∀ (i : Nat) (ty : TypeId) (o k : Nat), (fs[i]?).map (fun f => (f.type, f.offset)) = some (ty, o) → Try.prog.cellsOf ty = k → ∃ yi, ys[i]? = some yi ∧ TR enc W ty ((c.drop o).take k) yi := by
 obtain ⟨m, x, hx, rfl⟩ := h
 obtain ⟨xs, n, _, rfl, hl, hxl, hf⟩ := DataW.trod_struct ht hx
 refine ⟨xs.map (·.1), rfl, hl, by rw [List.length_map]; exact hxl, fun i ty o k hi hk => ?_⟩
 obtain ⟨f, hfi, he⟩ := Option.map_eq_some_iff.1 hi
 injection he with e1 e2
 subst e1 e2 hk
 have h1 := hf i f hfi
 have hlt : i < xs.length := by rw [hxl]; exact (Array.getElem?_eq_some_iff.1 hfi).1
 rw [List.getElem?_eq_getElem hlt] at h1
 exact ⟨xs[i].1, by rw [List.getElem?_map, List.getElem?_eq_getElem hlt]; rfl, n, _, h1, rfl⟩
theorem i64_wf {n : Int} (h : (Lit.int .i64 n).wf = true) : I64 n := by
 have : -9223372036854775808 ≤ n ∧ n ≤ 9223372036854775807 := by simpa [Lit.wf, IntKind.min, IntKind.max, IntKind.signed, IntKind.bits] using h
 exact this
theorem tr_int {t : TypeId} {v : Value} {y : DataW H} (ht : Try.prog.underlying t = some (.int .i64)) (h : TR enc W t [v] y) : ∃ z, v = .int .i64 z ∧ I64 z := by
 obtain ⟨m, x, hx, rfl⟩ := h
 obtain ⟨z, e, _, hw⟩ := DataW.trod_int ht hx
 injection e with e _
 exact ⟨z, e, i64_wf hw⟩
theorem tr_str {v : Value} {y : DataW H} (h : TR enc W 9 [v] y) : ∃ s : ByteArray, v = .string s ∧ s.size + 1 ≤ bulk y := by
 obtain ⟨m, x, hx, rfl⟩ := h
 obtain ⟨s, e, rfl, _⟩ := DataW.trod_string Try.underlying9 hx
 injection e with e _
 refine ⟨s, e, ?_⟩
 show s.size + 1 ≤ s.data.toList.length + 1
 rw [Array.length_toList]
 exact Nat.le_refl _
theorem tr_bool {v : Value} {y : DataW H} (h : TR enc W 4 [v] y) : ∃ b : Bool, v = .bool b := by
 obtain ⟨m, x, hx, rfl⟩ := h
 obtain ⟨b, e, _⟩ := DataW.trod_bool Try.underlying4 hx
 injection e with e _
 exact ⟨b, e⟩
theorem one_le (d : DataW H) : 1 ≤ Rows.uptoBulk d := by
 cases d with
 | lit l => cases l <;> simp [Rows.uptoBulk]
 | nil => simp [Rows.uptoBulk]
 | ptr d => simp [Rows.uptoBulk]
 | slice elems spare => simp [Rows.uptoBulk]
 | agg parts => simp [Rows.uptoBulk]
 | iface t d => simp [Rows.uptoBulk]
 | map entries => simp [Rows.uptoBulk]
 | held h => simp [Rows.uptoBulk]
theorem len_bulk (l : List (DataW H)) : l.length ≤ Rows.uptoBulkAll l := by
 induction l with
 | nil => simp [Rows.uptoBulkAll]
 | cons x r ih => have := one_le x; simp only [Rows.uptoBulkAll, List.length_cons]; omega
theorem tr_ints {v : Value} {y : DataW H} (h : TR enc W 28 [v] y) : ∃ A n c l, v = .slice A n c ∧ Li W (.slice A n c) l ∧ l.length + 1 ≤ bulk y := by
 obtain ⟨m, x, hx, rfl⟩ := h
 rcases open_ints Try.underlying28 Try.underlying3 (by kernel_rfl) hx with ⟨e, rfl⟩ | ⟨a, len, cap, zs, e, _, hl, hm, hz, rfl, hcell, hwf⟩
 ·injection e with e _
  exact ⟨none, 0, 0, [], e, Li.nil _, by simp [bulk, Rows.uptoBulk]⟩
 ·injection e with e _
  simp only [if_true] at hz
  have hlen : (zs.take len).length = len := by rw [List.length_take]; omega
  refine ⟨some a, len, cap, zs.take len, e, ⟨some a, cap, by rw [hlen], by rw [hlen]; exact hl, hm, fun z hz' => i64_wf (hwf z (List.mem_of_mem_take hz')), fun h0 => ?_⟩, ?_⟩
  ·obtain ⟨e1, e2⟩ := cell_plain (hcell 0 (by omega))
   have e3 : a = ⟨a.block, a.off, none⟩ := by
    obtain ⟨b, o, s⟩ := a
    have := congrArg Addr.spot e1
    simp only [Addr.add] at this
    simp at this
    simp [this]
   refine ⟨a.block, a.off, by rw [← e3], ?_, fun j hj => ?_⟩
   ·have : (a.add 0).block = a.block := by simp [Addr.add]
    omega
   ·rw [hlen] at hj
    have hj' := hcell j (by omega)
    rw [e3, add_plain] at hj'
    rw [hj']
    simp [List.getElem_take, List.getD, List.getElem?_eq_getElem (show j < zs.length by omega)]
  ·have h1 := len_bulk (lits (H := H) .i64 (zs.take len))
   have h2 : (lits (H := H) .i64 (zs.take len)).length = len := by unfold lits; rw [List.length_map, hlen]
   rw [hlen]
   show len + 1 ≤ Rows.uptoBulkAll _ + Rows.uptoBulkAll _ + 1
   omega
theorem tr_Change {c : List Value} {y : DataW H} (h : TR enc W 30 c y) : ∃ z0 z1 A2 n2 c2 l2 A3 n3 c3 l3, c = [.int .i64 z0, .int .i64 z1, .slice A2 n2 c2, .slice A3 n3 c3] ∧ I64 z0 ∧ I64 z1 ∧ Li W (.slice A2 n2 c2) l2 ∧ Li W (.slice A3 n3 c3) l3 ∧ l2.length + l3.length + 1 ≤ bulk y := by
 obtain ⟨ys, rfl, hl, hy, hf⟩ := tr_struct Try.underlying30 h
 obtain ⟨v0, v1, v2, v3, rfl⟩ : ∃ v0 v1 v2 v3, c = [v0, v1, v2, v3] := len4 (hl.trans (by kernel_rfl))
 obtain ⟨y0, y1, y2, y3, rfl⟩ : ∃ y0 y1 y2 y3, ys = [y0, y1, y2, y3] := len4 hy
 have hbk : bulk (.agg [y0, y1, y2, y3]) = bulk y0 + bulk y1 + bulk y2 + bulk y3 + 1 := by simp only [bulk, Rows.uptoBulk, Rows.uptoBulkAll]; omega
 obtain ⟨w0, e0, h0⟩ := hf 0 3 0 1 (by kernel_rfl) (by kernel_rfl)
 obtain rfl : y0 = w0 := by injection e0
 replace h0 : TR enc W 3 [v0] y0 := h0
 obtain ⟨z0, rfl, f0⟩ := tr_int Try.underlying3 h0
 obtain ⟨w1, e1, h1⟩ := hf 1 3 1 1 (by kernel_rfl) (by kernel_rfl)
 obtain rfl : y1 = w1 := by injection e1
 replace h1 : TR enc W 3 [v1] y1 := h1
 obtain ⟨z1, rfl, f1⟩ := tr_int Try.underlying3 h1
 obtain ⟨w2, e2, h2⟩ := hf 2 28 2 1 (by kernel_rfl) (by kernel_rfl)
 obtain rfl : y2 = w2 := by injection e2
 replace h2 : TR enc W 28 [v2] y2 := h2
 obtain ⟨A2, n2, c2, l2, rfl, f2, q2⟩ := tr_ints h2
 obtain ⟨w3, e3, h3⟩ := hf 3 28 3 1 (by kernel_rfl) (by kernel_rfl)
 obtain rfl : y3 = w3 := by injection e3
 replace h3 : TR enc W 28 [v3] y3 := h3
 obtain ⟨A3, n3, c3, l3, rfl, f3, q3⟩ := tr_ints h3
 exact ⟨_, _, _, _, _, _, _, _, _, _, rfl, f0, f1, f2, f3, (by rw [hbk]; omega)⟩
theorem tr_Unit {c : List Value} {y : DataW H} (h : TR enc W 32 c y) : ∃ z0 z1 z2 z3, c = [.int .i64 z0, .int .i64 z1, .int .i64 z2, .int .i64 z3] ∧ I64 z0 ∧ I64 z1 ∧ I64 z2 ∧ I64 z3 ∧ 0 + 1 ≤ bulk y := by
 obtain ⟨ys, rfl, hl, hy, hf⟩ := tr_struct Try.underlying32 h
 obtain ⟨v0, v1, v2, v3, rfl⟩ : ∃ v0 v1 v2 v3, c = [v0, v1, v2, v3] := len4 (hl.trans (by kernel_rfl))
 obtain ⟨y0, y1, y2, y3, rfl⟩ : ∃ y0 y1 y2 y3, ys = [y0, y1, y2, y3] := len4 hy
 have hbk : bulk (.agg [y0, y1, y2, y3]) = bulk y0 + bulk y1 + bulk y2 + bulk y3 + 1 := by simp only [bulk, Rows.uptoBulk, Rows.uptoBulkAll]; omega
 obtain ⟨w0, e0, h0⟩ := hf 0 3 0 1 (by kernel_rfl) (by kernel_rfl)
 obtain rfl : y0 = w0 := by injection e0
 replace h0 : TR enc W 3 [v0] y0 := h0
 obtain ⟨z0, rfl, f0⟩ := tr_int Try.underlying3 h0
 obtain ⟨w1, e1, h1⟩ := hf 1 3 1 1 (by kernel_rfl) (by kernel_rfl)
 obtain rfl : y1 = w1 := by injection e1
 replace h1 : TR enc W 3 [v1] y1 := h1
 obtain ⟨z1, rfl, f1⟩ := tr_int Try.underlying3 h1
 obtain ⟨w2, e2, h2⟩ := hf 2 3 2 1 (by kernel_rfl) (by kernel_rfl)
 obtain rfl : y2 = w2 := by injection e2
 replace h2 : TR enc W 3 [v2] y2 := h2
 obtain ⟨z2, rfl, f2⟩ := tr_int Try.underlying3 h2
 obtain ⟨w3, e3, h3⟩ := hf 3 2 3 1 (by kernel_rfl) (by kernel_rfl)
 obtain rfl : y3 = w3 := by injection e3
 replace h3 : TR enc W 2 [v3] y3 := h3
 obtain ⟨z3, rfl, f3⟩ := tr_int Try.underlying2 h3
 exact ⟨_, _, _, _, rfl, f0, f1, f2, f3, (by rw [hbk]; omega)⟩
theorem tr_Config {c : List Value} {y : DataW H} (h : TR enc W 34 c y) : ∃ A0 n0 c0 l0 A1 n1 c1 l1 A2 n2 c2 l2, c = [.slice A0 n0 c0, .slice A1 n1 c1, .slice A2 n2 c2] ∧ Li W (.slice A0 n0 c0) l0 ∧ Li W (.slice A1 n1 c1) l1 ∧ Li W (.slice A2 n2 c2) l2 ∧ l0.length + l1.length + l2.length + 1 ≤ bulk y := by
 obtain ⟨ys, rfl, hl, hy, hf⟩ := tr_struct Try.underlying34 h
 obtain ⟨v0, v1, v2, rfl⟩ : ∃ v0 v1 v2, c = [v0, v1, v2] := len3 (hl.trans (by kernel_rfl))
 obtain ⟨y0, y1, y2, rfl⟩ : ∃ y0 y1 y2, ys = [y0, y1, y2] := len3 hy
 have hbk : bulk (.agg [y0, y1, y2]) = bulk y0 + bulk y1 + bulk y2 + 1 := by simp only [bulk, Rows.uptoBulk, Rows.uptoBulkAll]; omega
 obtain ⟨w0, e0, h0⟩ := hf 0 28 0 1 (by kernel_rfl) (by kernel_rfl)
 obtain rfl : y0 = w0 := by injection e0
 replace h0 : TR enc W 28 [v0] y0 := h0
 obtain ⟨A0, n0, c0, l0, rfl, f0, q0⟩ := tr_ints h0
 obtain ⟨w1, e1, h1⟩ := hf 1 28 1 1 (by kernel_rfl) (by kernel_rfl)
 obtain rfl : y1 = w1 := by injection e1
 replace h1 : TR enc W 28 [v1] y1 := h1
 obtain ⟨A1, n1, c1, l1, rfl, f1, q1⟩ := tr_ints h1
 obtain ⟨w2, e2, h2⟩ := hf 2 28 2 1 (by kernel_rfl) (by kernel_rfl)
 obtain rfl : y2 = w2 := by injection e2
 replace h2 : TR enc W 28 [v2] y2 := h2
 obtain ⟨A2, n2, c2, l2, rfl, f2, q2⟩ := tr_ints h2
 exact ⟨_, _, _, _, _, _, _, _, _, _, _, _, rfl, f0, f1, f2, (by rw [hbk]; omega)⟩
theorem tr_Status {c : List Value} {y : DataW H} (h : TR enc W 36 c y) : ∃ z0 z1 z2 z3 z4 z5 z6 z7 A8 n8 c8 l8 A9 n9 c9 l9 A10 n10 c10 l10 A11 n11 c11 l11 A12 n12 c12 l12 A13 n13 c13 l13 A14 n14 c14 l14, c = [.int .i64 z0, .int .i64 z1, .int .i64 z2, .int .i64 z3, .int .i64 z4, .int .i64 z5, .int .i64 z6, .int .i64 z7, .slice A8 n8 c8, .slice A9 n9 c9, .slice A10 n10 c10, .slice A11 n11 c11, .slice A12 n12 c12, .slice A13 n13 c13, .slice A14 n14 c14] ∧ I64 z0 ∧ I64 z1 ∧ I64 z2 ∧ I64 z3 ∧ I64 z4 ∧ I64 z5 ∧ I64 z6 ∧ I64 z7 ∧ Li W (.slice A8 n8 c8) l8 ∧ Li W (.slice A9 n9 c9) l9 ∧ Li W (.slice A10 n10 c10) l10 ∧ Li W (.slice A11 n11 c11) l11 ∧ Li W (.slice A12 n12 c12) l12 ∧ Li W (.slice A13 n13 c13) l13 ∧ Li W (.slice A14 n14 c14) l14 ∧ l8.length + l9.length + l10.length + l11.length + l12.length + l13.length + l14.length + 1 ≤ bulk y := by
 obtain ⟨ys, rfl, hl, hy, hf⟩ := tr_struct Try.underlying36 h
 obtain ⟨v0, v1, v2, v3, v4, v5, v6, v7, v8, v9, v10, v11, v12, v13, v14, rfl⟩ : ∃ v0 v1 v2 v3 v4 v5 v6 v7 v8 v9 v10 v11 v12 v13 v14, c = [v0, v1, v2, v3, v4, v5, v6, v7, v8, v9, v10, v11, v12, v13, v14] := len15 (hl.trans (by kernel_rfl))
 obtain ⟨y0, y1, y2, y3, y4, y5, y6, y7, y8, y9, y10, rfl⟩ : ∃ y0 y1 y2 y3 y4 y5 y6 y7 y8 y9 y10, ys = [y0, y1, y2, y3, y4, y5, y6, y7, y8, y9, y10] := len11 hy
 have hbk : bulk (.agg [y0, y1, y2, y3, y4, y5, y6, y7, y8, y9, y10]) = bulk y0 + bulk y1 + bulk y2 + bulk y3 + bulk y4 + bulk y5 + bulk y6 + bulk y7 + bulk y8 + bulk y9 + bulk y10 + 1 := by simp only [bulk, Rows.uptoBulk, Rows.uptoBulkAll]; omega
 obtain ⟨w0, e0, h0⟩ := hf 0 3 0 1 (by kernel_rfl) (by kernel_rfl)
 obtain rfl : y0 = w0 := by injection e0
 replace h0 : TR enc W 3 [v0] y0 := h0
 obtain ⟨z0, rfl, f0⟩ := tr_int Try.underlying3 h0
 obtain ⟨w1, e1, h1⟩ := hf 1 3 1 1 (by kernel_rfl) (by kernel_rfl)
 obtain rfl : y1 = w1 := by injection e1
 replace h1 : TR enc W 3 [v1] y1 := h1
 obtain ⟨z1, rfl, f1⟩ := tr_int Try.underlying3 h1
 obtain ⟨w2, e2, h2⟩ := hf 2 3 2 1 (by kernel_rfl) (by kernel_rfl)
 obtain rfl : y2 = w2 := by injection e2
 replace h2 : TR enc W 3 [v2] y2 := h2
 obtain ⟨z2, rfl, f2⟩ := tr_int Try.underlying3 h2
 obtain ⟨w3, e3, h3⟩ := hf 3 3 3 1 (by kernel_rfl) (by kernel_rfl)
 obtain rfl : y3 = w3 := by injection e3
 replace h3 : TR enc W 3 [v3] y3 := h3
 obtain ⟨z3, rfl, f3⟩ := tr_int Try.underlying3 h3
 obtain ⟨w4, e4, h4⟩ := hf 4 3 4 1 (by kernel_rfl) (by kernel_rfl)
 obtain rfl : y4 = w4 := by injection e4
 replace h4 : TR enc W 3 [v4] y4 := h4
 obtain ⟨z4, rfl, f4⟩ := tr_int Try.underlying3 h4
 obtain ⟨w5, e5, h5⟩ := hf 5 3 5 1 (by kernel_rfl) (by kernel_rfl)
 obtain rfl : y5 = w5 := by injection e5
 replace h5 : TR enc W 3 [v5] y5 := h5
 obtain ⟨z5, rfl, f5⟩ := tr_int Try.underlying3 h5
 obtain ⟨w6, e6, h6⟩ := hf 6 3 6 1 (by kernel_rfl) (by kernel_rfl)
 obtain rfl : y6 = w6 := by injection e6
 replace h6 : TR enc W 3 [v6] y6 := h6
 obtain ⟨z6, rfl, f6⟩ := tr_int Try.underlying3 h6
 obtain ⟨w7, e7, h7⟩ := hf 7 3 7 1 (by kernel_rfl) (by kernel_rfl)
 obtain rfl : y7 = w7 := by injection e7
 replace h7 : TR enc W 3 [v7] y7 := h7
 obtain ⟨z7, rfl, f7⟩ := tr_int Try.underlying3 h7
 obtain ⟨w8, e8, h8⟩ := hf 8 34 8 3 (by kernel_rfl) (by kernel_rfl)
 obtain rfl : y8 = w8 := by injection e8
 replace h8 : TR enc W 34 [v8, v9, v10] y8 := h8
 obtain ⟨A8, n8, c8, l8, A9, n9, c9, l9, A10, n10, c10, l10, e, f8, f9, f10, q8⟩ := tr_Config h8
 simp only [List.cons.injEq, and_true] at e
 obtain ⟨rfl, rfl, rfl⟩ := e
 obtain ⟨w9, e9, h9⟩ := hf 9 34 11 3 (by kernel_rfl) (by kernel_rfl)
 obtain rfl : y9 = w9 := by injection e9
 replace h9 : TR enc W 34 [v11, v12, v13] y9 := h9
 obtain ⟨A11, n11, c11, l11, A12, n12, c12, l12, A13, n13, c13, l13, e, f11, f12, f13, q9⟩ := tr_Config h9
 simp only [List.cons.injEq, and_true] at e
 obtain ⟨rfl, rfl, rfl⟩ := e
 obtain ⟨w10, e10, h10⟩ := hf 10 28 14 1 (by kernel_rfl) (by kernel_rfl)
 obtain rfl : y10 = w10 := by injection e10
 replace h10 : TR enc W 28 [v14] y10 := h10
 obtain ⟨A14, n14, c14, l14, rfl, f14, q10⟩ := tr_ints h10
 exact ⟨_, _, _, _, _, _, _, _, _, _, _, _, _, _, _, _, _, _, _, _, _, _, _, _, _, _, _, _, _, _, _, _, _, _, _, _, rfl, f0, f1, f2, f3, f4, f5, f6, f7, f8, f9, f10, f11, f12, f13, f14, (by rw [hbk]; omega)⟩
theorem tr_Command {c : List Value} {y : DataW H} (h : TR enc W 114 c y) : ∃ z0 z1 z2 s3 z4 z5 z6 z7 A8 n8 c8 l8 A9 n9 c9 l9 A10 n10 c10 l10 A11 n11 c11 l11 A12 n12 c12 l12, c = [.int .i64 z0, .int .i64 z1, .int .i64 z2, .string s3, .int .i64 z4, .int .i64 z5, .int .i64 z6, .int .i64 z7, .slice A8 n8 c8, .slice A9 n9 c9, .slice A10 n10 c10, .slice A11 n11 c11, .slice A12 n12 c12] ∧ I64 z0 ∧ I64 z1 ∧ I64 z2 ∧ I64 z4 ∧ I64 z5 ∧ I64 z6 ∧ I64 z7 ∧ Li W (.slice A8 n8 c8) l8 ∧ Li W (.slice A9 n9 c9) l9 ∧ Li W (.slice A10 n10 c10) l10 ∧ Li W (.slice A11 n11 c11) l11 ∧ Li W (.slice A12 n12 c12) l12 ∧ s3.size + l8.length + l9.length + l10.length + l11.length + l12.length + 1 ≤ bulk y := by
 obtain ⟨ys, rfl, hl, hy, hf⟩ := tr_struct Try.underlying114 h
 obtain ⟨v0, v1, v2, v3, v4, v5, v6, v7, v8, v9, v10, v11, v12, rfl⟩ : ∃ v0 v1 v2 v3 v4 v5 v6 v7 v8 v9 v10 v11 v12, c = [v0, v1, v2, v3, v4, v5, v6, v7, v8, v9, v10, v11, v12] := len13 (hl.trans (by kernel_rfl))
 obtain ⟨y0, y1, y2, y3, y4, y5, y6, y7, rfl⟩ : ∃ y0 y1 y2 y3 y4 y5 y6 y7, ys = [y0, y1, y2, y3, y4, y5, y6, y7] := len8 hy
 have hbk : bulk (.agg [y0, y1, y2, y3, y4, y5, y6, y7]) = bulk y0 + bulk y1 + bulk y2 + bulk y3 + bulk y4 + bulk y5 + bulk y6 + bulk y7 + 1 := by simp only [bulk, Rows.uptoBulk, Rows.uptoBulkAll]; omega
 obtain ⟨w0, e0, h0⟩ := hf 0 3 0 1 (by kernel_rfl) (by kernel_rfl)
 obtain rfl : y0 = w0 := by injection e0
 replace h0 : TR enc W 3 [v0] y0 := h0
 obtain ⟨z0, rfl, f0⟩ := tr_int Try.underlying3 h0
 obtain ⟨w1, e1, h1⟩ := hf 1 3 1 1 (by kernel_rfl) (by kernel_rfl)
 obtain rfl : y1 = w1 := by injection e1
 replace h1 : TR enc W 3 [v1] y1 := h1
 obtain ⟨z1, rfl, f1⟩ := tr_int Try.underlying3 h1
 obtain ⟨w2, e2, h2⟩ := hf 2 3 2 1 (by kernel_rfl) (by kernel_rfl)
 obtain rfl : y2 = w2 := by injection e2
 replace h2 : TR enc W 3 [v2] y2 := h2
 obtain ⟨z2, rfl, f2⟩ := tr_int Try.underlying3 h2
 obtain ⟨w3, e3, h3⟩ := hf 3 9 3 1 (by kernel_rfl) (by kernel_rfl)
 obtain rfl : y3 = w3 := by injection e3
 replace h3 : TR enc W 9 [v3] y3 := h3
 obtain ⟨s3, rfl, q3⟩ := tr_str h3
 obtain ⟨w4, e4, h4⟩ := hf 4 3 4 1 (by kernel_rfl) (by kernel_rfl)
 obtain rfl : y4 = w4 := by injection e4
 replace h4 : TR enc W 3 [v4] y4 := h4
 obtain ⟨z4, rfl, f4⟩ := tr_int Try.underlying3 h4
 obtain ⟨w5, e5, h5⟩ := hf 5 3 5 1 (by kernel_rfl) (by kernel_rfl)
 obtain rfl : y5 = w5 := by injection e5
 replace h5 : TR enc W 3 [v5] y5 := h5
 obtain ⟨z5, rfl, f5⟩ := tr_int Try.underlying3 h5
 obtain ⟨w6, e6, h6⟩ := hf 6 30 6 4 (by kernel_rfl) (by kernel_rfl)
 obtain rfl : y6 = w6 := by injection e6
 replace h6 : TR enc W 30 [v6, v7, v8, v9] y6 := h6
 obtain ⟨z6, z7, A8, n8, c8, l8, A9, n9, c9, l9, e, f6, f7, f8, f9, q6⟩ := tr_Change h6
 simp only [List.cons.injEq, and_true] at e
 obtain ⟨rfl, rfl, rfl, rfl⟩ := e
 obtain ⟨w7, e7, h7⟩ := hf 7 34 10 3 (by kernel_rfl) (by kernel_rfl)
 obtain rfl : y7 = w7 := by injection e7
 replace h7 : TR enc W 34 [v10, v11, v12] y7 := h7
 obtain ⟨A10, n10, c10, l10, A11, n11, c11, l11, A12, n12, c12, l12, e, f10, f11, f12, q7⟩ := tr_Config h7
 simp only [List.cons.injEq, and_true] at e
 obtain ⟨rfl, rfl, rfl⟩ := e
 exact ⟨_, _, _, _, _, _, _, _, _, _, _, _, _, _, _, _, _, _, _, _, _, _, _, _, _, _, _, _, rfl, f0, f1, f2, f4, f5, f6, f7, f8, f9, f10, f11, f12, (by rw [hbk]; omega)⟩
theorem tr_Entry {c : List Value} {y : DataW H} (h : TR enc W 116 c y) : ∃ z0 z1 z2 z3 z4 s5 z6 z7 z8 z9 A10 n10 c10 l10 A11 n11 c11 l11 A12 n12 c12 l12 A13 n13 c13 l13 A14 n14 c14 l14, c = [.int .i64 z0, .int .i64 z1, .int .i64 z2, .int .i64 z3, .int .i64 z4, .string s5, .int .i64 z6, .int .i64 z7, .int .i64 z8, .int .i64 z9, .slice A10 n10 c10, .slice A11 n11 c11, .slice A12 n12 c12, .slice A13 n13 c13, .slice A14 n14 c14] ∧ I64 z0 ∧ I64 z1 ∧ I64 z2 ∧ I64 z3 ∧ I64 z4 ∧ I64 z6 ∧ I64 z7 ∧ I64 z8 ∧ I64 z9 ∧ Li W (.slice A10 n10 c10) l10 ∧ Li W (.slice A11 n11 c11) l11 ∧ Li W (.slice A12 n12 c12) l12 ∧ Li W (.slice A13 n13 c13) l13 ∧ Li W (.slice A14 n14 c14) l14 ∧ s5.size + l10.length + l11.length + l12.length + l13.length + l14.length + 1 ≤ bulk y := by
 obtain ⟨ys, rfl, hl, hy, hf⟩ := tr_struct Try.underlying116 h
 obtain ⟨v0, v1, v2, v3, v4, v5, v6, v7, v8, v9, v10, v11, v12, v13, v14, rfl⟩ : ∃ v0 v1 v2 v3 v4 v5 v6 v7 v8 v9 v10 v11 v12 v13 v14, c = [v0, v1, v2, v3, v4, v5, v6, v7, v8, v9, v10, v11, v12, v13, v14] := len15 (hl.trans (by kernel_rfl))
 obtain ⟨y0, y1, y2, rfl⟩ : ∃ y0 y1 y2, ys = [y0, y1, y2] := len3 hy
 have hbk : bulk (.agg [y0, y1, y2]) = bulk y0 + bulk y1 + bulk y2 + 1 := by simp only [bulk, Rows.uptoBulk, Rows.uptoBulkAll]; omega
 obtain ⟨w0, e0, h0⟩ := hf 0 3 0 1 (by kernel_rfl) (by kernel_rfl)
 obtain rfl : y0 = w0 := by injection e0
 replace h0 : TR enc W 3 [v0] y0 := h0
 obtain ⟨z0, rfl, f0⟩ := tr_int Try.underlying3 h0
 obtain ⟨w1, e1, h1⟩ := hf 1 3 1 1 (by kernel_rfl) (by kernel_rfl)
 obtain rfl : y1 = w1 := by injection e1
 replace h1 : TR enc W 3 [v1] y1 := h1
 obtain ⟨z1, rfl, f1⟩ := tr_int Try.underlying3 h1
 obtain ⟨w2, e2, h2⟩ := hf 2 114 2 13 (by kernel_rfl) (by kernel_rfl)
 obtain rfl : y2 = w2 := by injection e2
 replace h2 : TR enc W 114 [v2, v3, v4, v5, v6, v7, v8, v9, v10, v11, v12, v13, v14] y2 := h2
 obtain ⟨z2, z3, z4, s5, z6, z7, z8, z9, A10, n10, c10, l10, A11, n11, c11, l11, A12, n12, c12, l12, A13, n13, c13, l13, A14, n14, c14, l14, e, f2, f3, f4, f6, f7, f8, f9, f10, f11, f12, f13, f14, q2⟩ := tr_Command h2
 simp only [List.cons.injEq, and_true] at e
 obtain ⟨rfl, rfl, rfl, rfl, rfl, rfl, rfl, rfl, rfl, rfl, rfl, rfl, rfl⟩ := e
 exact ⟨_, _, _, _, _, _, _, _, _, _, _, _, _, _, _, _, _, _, _, _, _, _, _, _, _, _, _, _, _, _, rfl, f0, f1, f2, f3, f4, f6, f7, f8, f9, f10, f11, f12, f13, f14, (by rw [hbk]; omega)⟩
theorem tr_en {c : List Value} {y : DataW H} (hN : bulk y ≤ 1048576) (h : TR enc W 116 c y) : ∃ x : En, EnC W W.heap.size c x ∧ x.Ok ∧ x.size ≤ bulk y + 40 := by
 obtain ⟨z0, z1, z2, z3, z4, s5, z6, z7, z8, z9, A10, n10, c10, l10, A11, n11, c11, l11, A12, n12, c12, l12, A13, n13, c13, l13, A14, n14, c14, l14, rfl, f0, f1, f2, f3, f4, f6, f7, f8, f9, f10, f11, f12, f13, f14, hb⟩ := tr_Entry h
 have ok : ∀ {A : Option Addr} {n c : Nat} {l : List Int}, Li W (.slice A n c) l → (∀ y ∈ l, I64 y) := fun h => by
  obtain ⟨_, _, _, _, _, h, _⟩ := h
  exact h
 refine ⟨⟨z0, z1, z2, z3, z4, s5, z6, z7, z8, z9, l10, l11, l12, l13, l14⟩, ⟨_, _, _, _, _, rfl, f10, f11, f12, f13, f14⟩, ⟨?_, ?_, ?_⟩, ?_⟩
 ·intro x hx
  simp only [List.mem_cons, List.not_mem_nil, or_false] at hx
  rcases hx with rfl | rfl | rfl | rfl | rfl | rfl | rfl | rfl | rfl <;> assumption
 ·intro l hl
  simp only [List.mem_cons, List.not_mem_nil, or_false] at hl
  rcases hl with rfl | rfl | rfl | rfl | rfl
  ·exact ⟨ok f10, by omega⟩
  ·exact ⟨ok f11, by omega⟩
  ·exact ⟨ok f12, by omega⟩
  ·exact ⟨ok f13, by omega⟩
  ·exact ⟨ok f14, by omega⟩
 ·show s5.size < _
  omega
 ·show s5.size + l10.length + l11.length + l12.length + l13.length + l14.length + 40 ≤ _
  omega
instance : Inhabited En := ⟨⟨0, 0, 0, 0, 0, ⟨#[]⟩, 0, 0, 0, 0, [], [], [], [], []⟩⟩
theorem totE_le {X : Nat → En} {D : Nat → DataW H} (ks : List Nat) (h : ∀ i ∈ ks, (X i).size ≤ bulk (D i) + 40) : totE (ks.map X) ≤ Rows.uptoBulkAll (ks.map D) + 40 * ks.length := by
 unfold totE
 induction ks with
 | nil => simp
 | cons k r ih =>
  have h1 := h k (by simp)
  have h2 := ih (fun i hi => h i (by simp [hi]))
  simp only [List.map_cons, List.sum_cons, Rows.uptoBulkAll, List.length_cons]
  simp only [bulk] at h1
  omega
theorem bulk_mem {d : DataW H} {l : List (DataW H)} (h : d ∈ l) : bulk d ≤ Rows.uptoBulkAll l := by
 induction l with
 | nil => cases h
 | cons x r ih =>
  simp only [Rows.uptoBulkAll, bulk] at *
  rcases List.mem_cons.1 h with rfl | e
  ·omega
  ·have := ih e; omega
theorem tr_ents {v : Value} {y : DataW H} (hN : bulk y ≤ 1048576) (h : TR enc W 37 [v] y) : ∃ A n c l, v = .slice A n c ∧ EnsIn W W.heap.size (.slice A n c) l ∧ l.length ≤ bulk y ∧ totE l ≤ 41 * bulk y := by
 obtain ⟨m, x, hx, rfl⟩ := h
 have c15 : Try.prog.cellsOf 116 = 15 := by kernel_rfl
 rcases Go.Deep.open_slice Try.underlying37 hx with ⟨e, rfl⟩ | ⟨a', len, cap, m, nn, D, Pl, e, _, hl, hm, hmm, rfl, hxe⟩
 ·injection e with e _
  exact ⟨none, 0, 0, [], e, (EsAB.nil W 0).ens (by intro x hx; cases hx), by simp, by simp [totE]⟩
 ·injection e with e _
  simp at hmm
  subst hmm
  have hbk : bulk (DataW.slice ((List.range len).map D) ((List.range (m - len)).map fun j => D (len + j))) = Rows.uptoBulkAll ((List.range len).map D) + Rows.uptoBulkAll ((List.range (m - len)).map fun j => D (len + j)) + 1 := rfl
  rw [hbk] at hN
  obtain ⟨X, hX⟩ := Go.Deep.choose_lt (α := En) (n := len) (p := fun i o => o.Ok ∧ o.size ≤ bulk (D i) + 40 ∧ ∃ cs', cs'.length = 15 ∧ EnC W W.heap.size cs' o ∧ ∀ j, j < 15 → W.cell? ((a'.add (i * 15)).add j) = cs'[j]?) (fun i hi => by
   obtain ⟨cs', h1, h2⟩ := hxe i (by omega)
   rw [c15] at h1
   obtain ⟨_, hlen, hc⟩ := World.cells?_some h1
   have hbi : bulk (D i) ≤ 1048576 := by
    have := bulk_mem (l := (List.range len).map D) (List.mem_map.2 ⟨i, List.mem_range.2 hi, rfl⟩)
    omega
   obtain ⟨o, q1, q2, q3⟩ := tr_en hbi ⟨_, _, h2, rfl⟩
   exact ⟨o, q2, q3, cs', hlen, q1, fun j hj => hc j hj⟩)
  have hll : ((List.range len).map X).length = len := by simp
  have hlb := len_bulk ((List.range len).map D)
  rw [List.length_map, List.length_range] at hlb
  have hte := totE_le (X := X) (D := D) (List.range len) (fun i hi => (hX i (List.mem_range.1 hi)).2.1)
  rw [List.length_range] at hte
  refine ⟨some a', len, m, (List.range len).map X, e, ⟨some a', m, by rw [hll], by rw [hll]; exact hl, hm, fun x hx => ?_, fun h0 => ?_⟩, by rw [hll, hbk]; omega, by rw [hbk]; omega⟩
  ·obtain ⟨i, hi, rfl⟩ := List.mem_map.1 hx
   exact (hX i (List.mem_range.1 hi)).1
  ·rw [hll] at h0
   obtain ⟨_, _, cs0, hl0, he0, hc0⟩ := hX 0 h0
   have hv0 : ∃ z, cs0[0]? = some (Value.int .i64 z) := by
    obtain ⟨_, _, _, _, _, rfl, _⟩ := he0
    exact ⟨_, rfl⟩
   obtain ⟨z, hz⟩ := hv0
   have hc1 := (hc0 0 (by decide)).trans hz
   rw [Nat.zero_mul] at hc1
   have hsp : a'.spot = none := by
    have e1 := (cell_plain (v := .int .i64 z) hc1).1
    obtain ⟨b, o, s⟩ := a'
    have := congrArg Addr.spot e1
    simp only [Addr.add] at this
    simpa using this
   have hbl := (cell_plain (v := .int .i64 z) hc1).2
   obtain ⟨b, o, s⟩ := a'
   simp only at hsp
   subst hsp
   refine ⟨b, o, rfl, ?_, fun i hi => ?_⟩
   ·simpa [Addr.add] using hbl
   ·rw [hll] at hi
    obtain ⟨_, _, cs', hl', he', hc'⟩ := hX i hi
    refine ⟨cs', by rw [List.getElem_map, List.getElem_range]; exact he', fun j v hj => ?_⟩
    have hj15 : j < 15 := by
     have := (List.getElem?_eq_some_iff.1 hj).1
     omega
    have hh := hc' j hj15
    rw [add_plain, add_plain] at hh
    rw [hh]
    exact hj
theorem tr_GM {c : List Value} {y : DataW H} (hN : bulk y ≤ 1048576) (h : TR enc W 39 c y) : ∃ z0 z1 z2 z3 z4 z5 z6 z7 b8 A9 n9 c9 l9 z10 s11 b12, c = [.int .i64 z0, .int .i64 z1, .int .i64 z2, .int .i64 z3, .int .i64 z4, .int .i64 z5, .int .i64 z6, .int .i64 z7, .bool b8, .slice A9 n9 c9, .int .i64 z10, .string s11, .bool b12] ∧ I64 z0 ∧ I64 z1 ∧ I64 z2 ∧ I64 z3 ∧ I64 z4 ∧ I64 z5 ∧ I64 z6 ∧ I64 z7 ∧ EnsIn W W.heap.size (.slice A9 n9 c9) l9 ∧ l9.length ≤ bulk y ∧ totE l9 ≤ 41 * bulk y ∧ I64 z10 ∧ s11.size + 1 ≤ bulk y := by
 obtain ⟨ys, rfl, hl, hy, hf⟩ := tr_struct Try.underlying39 h
 obtain ⟨v0, v1, v2, v3, v4, v5, v6, v7, v8, v9, v10, v11, v12, rfl⟩ : ∃ v0 v1 v2 v3 v4 v5 v6 v7 v8 v9 v10 v11 v12, c = [v0, v1, v2, v3, v4, v5, v6, v7, v8, v9, v10, v11, v12] := len13 (hl.trans (by kernel_rfl))
 obtain ⟨y0, y1, y2, y3, y4, y5, y6, y7, y8, y9, y10, y11, y12, rfl⟩ : ∃ y0 y1 y2 y3 y4 y5 y6 y7 y8 y9 y10 y11 y12, ys = [y0, y1, y2, y3, y4, y5, y6, y7, y8, y9, y10, y11, y12] := len13 hy
 have hbk : bulk (.agg [y0, y1, y2, y3, y4, y5, y6, y7, y8, y9, y10, y11, y12]) = bulk y0 + bulk y1 + bulk y2 + bulk y3 + bulk y4 + bulk y5 + bulk y6 + bulk y7 + bulk y8 + bulk y9 + bulk y10 + bulk y11 + bulk y12 + 1 := by simp only [bulk, Rows.uptoBulk, Rows.uptoBulkAll]; omega
 obtain ⟨w0, e0, h0⟩ := hf 0 3 0 1 (by kernel_rfl) (by kernel_rfl)
 obtain rfl : y0 = w0 := by injection e0
 replace h0 : TR enc W 3 [v0] y0 := h0
 obtain ⟨z0, rfl, f0⟩ := tr_int Try.underlying3 h0
 obtain ⟨w1, e1, h1⟩ := hf 1 3 1 1 (by kernel_rfl) (by kernel_rfl)
 obtain rfl : y1 = w1 := by injection e1
 replace h1 : TR enc W 3 [v1] y1 := h1
 obtain ⟨z1, rfl, f1⟩ := tr_int Try.underlying3 h1
 obtain ⟨w2, e2, h2⟩ := hf 2 3 2 1 (by kernel_rfl) (by kernel_rfl)
 obtain rfl : y2 = w2 := by injection e2
 replace h2 : TR enc W 3 [v2] y2 := h2
 obtain ⟨z2, rfl, f2⟩ := tr_int Try.underlying3 h2
 obtain ⟨w3, e3, h3⟩ := hf 3 3 3 1 (by kernel_rfl) (by kernel_rfl)
 obtain rfl : y3 = w3 := by injection e3
 replace h3 : TR enc W 3 [v3] y3 := h3
 obtain ⟨z3, rfl, f3⟩ := tr_int Try.underlying3 h3
 obtain ⟨w4, e4, h4⟩ := hf 4 3 4 1 (by kernel_rfl) (by kernel_rfl)
 obtain rfl : y4 = w4 := by injection e4
 replace h4 : TR enc W 3 [v4] y4 := h4
 obtain ⟨z4, rfl, f4⟩ := tr_int Try.underlying3 h4
 obtain ⟨w5, e5, h5⟩ := hf 5 3 5 1 (by kernel_rfl) (by kernel_rfl)
 obtain rfl : y5 = w5 := by injection e5
 replace h5 : TR enc W 3 [v5] y5 := h5
 obtain ⟨z5, rfl, f5⟩ := tr_int Try.underlying3 h5
 obtain ⟨w6, e6, h6⟩ := hf 6 3 6 1 (by kernel_rfl) (by kernel_rfl)
 obtain rfl : y6 = w6 := by injection e6
 replace h6 : TR enc W 3 [v6] y6 := h6
 obtain ⟨z6, rfl, f6⟩ := tr_int Try.underlying3 h6
 obtain ⟨w7, e7, h7⟩ := hf 7 3 7 1 (by kernel_rfl) (by kernel_rfl)
 obtain rfl : y7 = w7 := by injection e7
 replace h7 : TR enc W 3 [v7] y7 := h7
 obtain ⟨z7, rfl, f7⟩ := tr_int Try.underlying3 h7
 obtain ⟨w8, e8, h8⟩ := hf 8 4 8 1 (by kernel_rfl) (by kernel_rfl)
 obtain rfl : y8 = w8 := by injection e8
 replace h8 : TR enc W 4 [v8] y8 := h8
 obtain ⟨b8, rfl⟩ := tr_bool h8
 obtain ⟨w9, e9, h9⟩ := hf 9 37 9 1 (by kernel_rfl) (by kernel_rfl)
 obtain rfl : y9 = w9 := by injection e9
 replace h9 : TR enc W 37 [v9] y9 := h9
 obtain ⟨A9, n9, c9, l9, rfl, f9, g9, t9⟩ := tr_ents (by rw [hbk] at hN; omega) h9
 obtain ⟨w10, e10, h10⟩ := hf 10 3 10 1 (by kernel_rfl) (by kernel_rfl)
 obtain rfl : y10 = w10 := by injection e10
 replace h10 : TR enc W 3 [v10] y10 := h10
 obtain ⟨z10, rfl, f10⟩ := tr_int Try.underlying3 h10
 obtain ⟨w11, e11, h11⟩ := hf 11 9 11 1 (by kernel_rfl) (by kernel_rfl)
 obtain rfl : y11 = w11 := by injection e11
 replace h11 : TR enc W 9 [v11] y11 := h11
 obtain ⟨s11, rfl, q11⟩ := tr_str h11
 obtain ⟨w12, e12, h12⟩ := hf 12 4 12 1 (by kernel_rfl) (by kernel_rfl)
 obtain rfl : y12 = w12 := by injection e12
 replace h12 : TR enc W 4 [v12] y12 := h12
 obtain ⟨b12, rfl⟩ := tr_bool h12
 exact ⟨_, _, _, _, _, _, _, _, _, _, _, _, _, _, _, _, rfl, f0, f1, f2, f3, f4, f5, f6, f7, f9, (by rw [hbk]; omega), (by rw [hbk]; omega), f10, (by rw [hbk]; omega)⟩
theorem sub_get {c vs : List Value} {o k i : Nat} {v : Value} (h : (c.drop o).take k = vs) (hi : vs[i]? = some v) : c[o + i]? = some v := by
 subst h
 rw [List.getElem?_take] at hi
 split at hi
 ·rw [List.getElem?_drop] at hi; exact hi
 ·cases hi
theorem one_get {c : List Value} {o : Nat} (h : o < c.length) : ∃ v, (c.drop o).take 1 = [v] ∧ c[o]? = some v := by
 refine ⟨c[o], ?_, List.getElem?_eq_getElem h⟩
 rw [List.drop_eq_getElem_cons h]
 rfl
theorem open_msgc {c : List Value} {y : DataW H} (hN : bulk y ≤ 1048576) (h : TR enc W 41 c y) : ∃ p : PM, MsgV W c p ∧ Sm p := by
 obtain ⟨ys, rfl, hl, hy, hf⟩ := tr_struct Try.underlying41 h
 obtain ⟨y0, y1, y2, y3, y4, y5, y6, y7, y8, y9, y10, y11, y12, y13, y14, rfl⟩ : ∃ y0 y1 y2 y3 y4 y5 y6 y7 y8 y9 y10 y11 y12 y13 y14, ys = [y0, y1, y2, y3, y4, y5, y6, y7, y8, y9, y10, y11, y12, y13, y14] := len15 hy
 have hlen : c.length = 47 := hl.trans (by kernel_rfl)
 have hbk : bulk (.agg [y0, y1, y2, y3, y4, y5, y6, y7, y8, y9, y10, y11, y12, y13, y14]) = bulk y0 + bulk y1 + bulk y2 + bulk y3 + bulk y4 + bulk y5 + bulk y6 + bulk y7 + bulk y8 + bulk y9 + bulk y10 + bulk y11 + bulk y12 + bulk y13 + bulk y14 + 1 := by simp only [bulk, Rows.uptoBulk, Rows.uptoBulkAll]; omega
 obtain ⟨w0, e0, h0⟩ := hf 0 3 0 1 (by kernel_rfl) (by kernel_rfl)
 obtain rfl : y0 = w0 := by injection e0
 obtain ⟨u0, g_0⟩ := one_get (c := c) (o := 0) (by omega)
 rw [g_0.1] at h0
 obtain ⟨z0, rfl, f0⟩ := tr_int Try.underlying3 h0
 have k0 := g_0.2
 obtain ⟨w1, e1, h1⟩ := hf 1 3 1 1 (by kernel_rfl) (by kernel_rfl)
 obtain rfl : y1 = w1 := by injection e1
 obtain ⟨u1, g_1⟩ := one_get (c := c) (o := 1) (by omega)
 rw [g_1.1] at h1
 obtain ⟨z1, rfl, f1⟩ := tr_int Try.underlying3 h1
 have k1 := g_1.2
 obtain ⟨w2, e2, h2⟩ := hf 2 3 2 1 (by kernel_rfl) (by kernel_rfl)
 obtain rfl : y2 = w2 := by injection e2
 obtain ⟨u2, g_2⟩ := one_get (c := c) (o := 2) (by omega)
 rw [g_2.1] at h2
 obtain ⟨z2, rfl, f2⟩ := tr_int Try.underlying3 h2
 have k2 := g_2.2
 obtain ⟨w3, e3, h3⟩ := hf 3 3 3 1 (by kernel_rfl) (by kernel_rfl)
 obtain rfl : y3 = w3 := by injection e3
 obtain ⟨u3, g_3⟩ := one_get (c := c) (o := 3) (by omega)
 rw [g_3.1] at h3
 obtain ⟨z3, rfl, f3⟩ := tr_int Try.underlying3 h3
 have k3 := g_3.2
 obtain ⟨w4, e4, h4⟩ := hf 4 27 4 1 (by kernel_rfl) (by kernel_rfl)
 obtain rfl : y4 = w4 := by injection e4
 obtain ⟨u4, g_4⟩ := one_get (c := c) (o := 4) (by omega)
 rw [g_4.1] at h4
 obtain ⟨z4, rfl, f4⟩ := tr_int Try.underlying27 h4
 have k4 := g_4.2
 obtain ⟨w5, e5, h5⟩ := hf 5 9 5 1 (by kernel_rfl) (by kernel_rfl)
 obtain rfl : y5 = w5 := by injection e5
 obtain ⟨u5, g_5⟩ := one_get (c := c) (o := 5) (by omega)
 rw [g_5.1] at h5
 obtain ⟨s5, rfl, q5⟩ := tr_str h5
 have k5 := g_5.2
 obtain ⟨w6, e6, h6⟩ := hf 6 3 6 1 (by kernel_rfl) (by kernel_rfl)
 obtain rfl : y6 = w6 := by injection e6
 obtain ⟨u6, g_6⟩ := one_get (c := c) (o := 6) (by omega)
 rw [g_6.1] at h6
 obtain ⟨z6, rfl, f6⟩ := tr_int Try.underlying3 h6
 have k6 := g_6.2
 obtain ⟨w7, e7, h7⟩ := hf 7 3 7 1 (by kernel_rfl) (by kernel_rfl)
 obtain rfl : y7 = w7 := by injection e7
 obtain ⟨u7, g_7⟩ := one_get (c := c) (o := 7) (by omega)
 rw [g_7.1] at h7
 obtain ⟨z7, rfl, f7⟩ := tr_int Try.underlying3 h7
 have k7 := g_7.2
 obtain ⟨w8, e8, h8⟩ := hf 8 3 8 1 (by kernel_rfl) (by kernel_rfl)
 obtain rfl : y8 = w8 := by injection e8
 obtain ⟨u8, g_8⟩ := one_get (c := c) (o := 8) (by omega)
 rw [g_8.1] at h8
 obtain ⟨z8, rfl, f8⟩ := tr_int Try.underlying3 h8
 have k8 := g_8.2
 obtain ⟨w9, e9, h9⟩ := hf 9 30 9 4 (by kernel_rfl) (by kernel_rfl)
 obtain rfl : y9 = w9 := by injection e9
 obtain ⟨z9, z10, A11, n11, c11, l11, A12, n12, c12, l12, d9, f9, f10, f11, f12, q9⟩ := tr_Change h9
 have k9 : c[9]? = some (.int .i64 z9) := sub_get d9 (i := 0) rfl
 have k10 : c[10]? = some (.int .i64 z10) := sub_get d9 (i := 1) rfl
 have k11 : c[11]? = some (.slice A11 n11 c11) := sub_get d9 (i := 2) rfl
 have k12 : c[12]? = some (.slice A12 n12 c12) := sub_get d9 (i := 3) rfl
 obtain ⟨w10, e10, h10⟩ := hf 10 32 13 4 (by kernel_rfl) (by kernel_rfl)
 obtain rfl : y10 = w10 := by injection e10
 obtain ⟨z13, z14, z15, z16, d10, f13, f14, f15, f16, q10⟩ := tr_Unit h10
 have k13 : c[13]? = some (.int .i64 z13) := sub_get d10 (i := 0) rfl
 have k14 : c[14]? = some (.int .i64 z14) := sub_get d10 (i := 1) rfl
 have k15 : c[15]? = some (.int .i64 z15) := sub_get d10 (i := 2) rfl
 have k16 : c[16]? = some (.int .i64 z16) := sub_get d10 (i := 3) rfl
 obtain ⟨w11, e11, h11⟩ := hf 11 2 17 1 (by kernel_rfl) (by kernel_rfl)
 obtain rfl : y11 = w11 := by injection e11
 obtain ⟨u11, g_11⟩ := one_get (c := c) (o := 17) (by omega)
 rw [g_11.1] at h11
 obtain ⟨z17, rfl, f17⟩ := tr_int Try.underlying2 h11
 have k17 := g_11.2
 obtain ⟨w12, e12, h12⟩ := hf 12 36 18 15 (by kernel_rfl) (by kernel_rfl)
 obtain rfl : y12 = w12 := by injection e12
 obtain ⟨z18, z19, z20, z21, z22, z23, z24, z25, A26, n26, c26, l26, A27, n27, c27, l27, A28, n28, c28, l28, A29, n29, c29, l29, A30, n30, c30, l30, A31, n31, c31, l31, A32, n32, c32, l32, d12, f18, f19, f20, f21, f22, f23, f24, f25, f26, f27, f28, f29, f30, f31, f32, q12⟩ := tr_Status h12
 have k18 : c[18]? = some (.int .i64 z18) := sub_get d12 (i := 0) rfl
 have k19 : c[19]? = some (.int .i64 z19) := sub_get d12 (i := 1) rfl
 have k20 : c[20]? = some (.int .i64 z20) := sub_get d12 (i := 2) rfl
 have k21 : c[21]? = some (.int .i64 z21) := sub_get d12 (i := 3) rfl
 have k22 : c[22]? = some (.int .i64 z22) := sub_get d12 (i := 4) rfl
 have k23 : c[23]? = some (.int .i64 z23) := sub_get d12 (i := 5) rfl
 have k24 : c[24]? = some (.int .i64 z24) := sub_get d12 (i := 6) rfl
 have k25 : c[25]? = some (.int .i64 z25) := sub_get d12 (i := 7) rfl
 have k26 : c[26]? = some (.slice A26 n26 c26) := sub_get d12 (i := 8) rfl
 have k27 : c[27]? = some (.slice A27 n27 c27) := sub_get d12 (i := 9) rfl
 have k28 : c[28]? = some (.slice A28 n28 c28) := sub_get d12 (i := 10) rfl
 have k29 : c[29]? = some (.slice A29 n29 c29) := sub_get d12 (i := 11) rfl
 have k30 : c[30]? = some (.slice A30 n30 c30) := sub_get d12 (i := 12) rfl
 have k31 : c[31]? = some (.slice A31 n31 c31) := sub_get d12 (i := 13) rfl
 have k32 : c[32]? = some (.slice A32 n32 c32) := sub_get d12 (i := 14) rfl
 obtain ⟨w13, e13, h13⟩ := hf 13 28 33 1 (by kernel_rfl) (by kernel_rfl)
 obtain rfl : y13 = w13 := by injection e13
 obtain ⟨u13, g_13⟩ := one_get (c := c) (o := 33) (by omega)
 rw [g_13.1] at h13
 obtain ⟨A33, n33, c33, l33, rfl, f33, q13⟩ := tr_ints h13
 have k33 := g_13.2
 obtain ⟨w14, e14, h14⟩ := hf 14 39 34 13 (by kernel_rfl) (by kernel_rfl)
 obtain rfl : y14 = w14 := by injection e14
 obtain ⟨z34, z35, z36, z37, z38, z39, z40, z41, b42, A43, n43, c43, l43, z44, s45, b46, d14, f34, f35, f36, f37, f38, f39, f40, f41, f43, g43, t43, f44, q14⟩ := tr_GM (by rw [hbk] at hN; omega) h14
 have k34 : c[34]? = some (.int .i64 z34) := sub_get d14 (i := 0) rfl
 have k35 : c[35]? = some (.int .i64 z35) := sub_get d14 (i := 1) rfl
 have k36 : c[36]? = some (.int .i64 z36) := sub_get d14 (i := 2) rfl
 have k37 : c[37]? = some (.int .i64 z37) := sub_get d14 (i := 3) rfl
 have k38 : c[38]? = some (.int .i64 z38) := sub_get d14 (i := 4) rfl
 have k39 : c[39]? = some (.int .i64 z39) := sub_get d14 (i := 5) rfl
 have k40 : c[40]? = some (.int .i64 z40) := sub_get d14 (i := 6) rfl
 have k41 : c[41]? = some (.int .i64 z41) := sub_get d14 (i := 7) rfl
 have k42 : c[42]? = some (.bool b42) := sub_get d14 (i := 8) rfl
 have k43 : c[43]? = some (.slice A43 n43 c43) := sub_get d14 (i := 9) rfl
 have k44 : c[44]? = some (.int .i64 z44) := sub_get d14 (i := 10) rfl
 have k45 : c[45]? = some (.string s45) := sub_get d14 (i := 11) rfl
 have k46 : c[46]? = some (.bool b46) := sub_get d14 (i := 12) rfl
 rw [hbk] at hN
 refine ⟨⟨numAt c, fun o => if o = 11 then l11 else if o = 12 then l12 else if o = 26 then l26 else if o = 27 then l27 else if o = 28 then l28 else if o = 29 then l29 else if o = 30 then l30 else if o = 31 then l31 else if o = 32 then l32 else if o = 33 then l33 else [], s5, b42, b46, s45, l43⟩, ⟨hlen, fun o ho => ?_, fun o ho => ?_, k5, k42, k46, k45, ⟨_, _, _, k43, f43⟩⟩, ?_⟩
 ·simp only [iOffs, List.mem_cons, List.not_mem_nil, or_false] at ho
  rcases ho with rfl | rfl | rfl | rfl | rfl | rfl | rfl | rfl | rfl | rfl | rfl | rfl | rfl | rfl | rfl | rfl | rfl | rfl | rfl | rfl | rfl | rfl | rfl | rfl | rfl | rfl | rfl | rfl | rfl | rfl | rfl | rfl
  ·exact ⟨by show c[0]? = some (.int .i64 (numAt c 0)); rw [numAt_eq k0]; exact k0, by show I64 (numAt c 0); rw [numAt_eq k0]; exact f0⟩
  ·exact ⟨by show c[1]? = some (.int .i64 (numAt c 1)); rw [numAt_eq k1]; exact k1, by show I64 (numAt c 1); rw [numAt_eq k1]; exact f1⟩
  ·exact ⟨by show c[2]? = some (.int .i64 (numAt c 2)); rw [numAt_eq k2]; exact k2, by show I64 (numAt c 2); rw [numAt_eq k2]; exact f2⟩
  ·exact ⟨by show c[3]? = some (.int .i64 (numAt c 3)); rw [numAt_eq k3]; exact k3, by show I64 (numAt c 3); rw [numAt_eq k3]; exact f3⟩
  ·exact ⟨by show c[4]? = some (.int .i64 (numAt c 4)); rw [numAt_eq k4]; exact k4, by show I64 (numAt c 4); rw [numAt_eq k4]; exact f4⟩
  ·exact ⟨by show c[6]? = some (.int .i64 (numAt c 6)); rw [numAt_eq k6]; exact k6, by show I64 (numAt c 6); rw [numAt_eq k6]; exact f6⟩
  ·exact ⟨by show c[7]? = some (.int .i64 (numAt c 7)); rw [numAt_eq k7]; exact k7, by show I64 (numAt c 7); rw [numAt_eq k7]; exact f7⟩
  ·exact ⟨by show c[8]? = some (.int .i64 (numAt c 8)); rw [numAt_eq k8]; exact k8, by show I64 (numAt c 8); rw [numAt_eq k8]; exact f8⟩
  ·exact ⟨by show c[9]? = some (.int .i64 (numAt c 9)); rw [numAt_eq k9]; exact k9, by show I64 (numAt c 9); rw [numAt_eq k9]; exact f9⟩
  ·exact ⟨by show c[10]? = some (.int .i64 (numAt c 10)); rw [numAt_eq k10]; exact k10, by show I64 (numAt c 10); rw [numAt_eq k10]; exact f10⟩
  ·exact ⟨by show c[13]? = some (.int .i64 (numAt c 13)); rw [numAt_eq k13]; exact k13, by show I64 (numAt c 13); rw [numAt_eq k13]; exact f13⟩
  ·exact ⟨by show c[14]? = some (.int .i64 (numAt c 14)); rw [numAt_eq k14]; exact k14, by show I64 (numAt c 14); rw [numAt_eq k14]; exact f14⟩
  ·exact ⟨by show c[15]? = some (.int .i64 (numAt c 15)); rw [numAt_eq k15]; exact k15, by show I64 (numAt c 15); rw [numAt_eq k15]; exact f15⟩
  ·exact ⟨by show c[16]? = some (.int .i64 (numAt c 16)); rw [numAt_eq k16]; exact k16, by show I64 (numAt c 16); rw [numAt_eq k16]; exact f16⟩
  ·exact ⟨by show c[17]? = some (.int .i64 (numAt c 17)); rw [numAt_eq k17]; exact k17, by show I64 (numAt c 17); rw [numAt_eq k17]; exact f17⟩
  ·exact ⟨by show c[18]? = some (.int .i64 (numAt c 18)); rw [numAt_eq k18]; exact k18, by show I64 (numAt c 18); rw [numAt_eq k18]; exact f18⟩
  ·exact ⟨by show c[19]? = some (.int .i64 (numAt c 19)); rw [numAt_eq k19]; exact k19, by show I64 (numAt c 19); rw [numAt_eq k19]; exact f19⟩
  ·exact ⟨by show c[20]? = some (.int .i64 (numAt c 20)); rw [numAt_eq k20]; exact k20, by show I64 (numAt c 20); rw [numAt_eq k20]; exact f20⟩
  ·exact ⟨by show c[21]? = some (.int .i64 (numAt c 21)); rw [numAt_eq k21]; exact k21, by show I64 (numAt c 21); rw [numAt_eq k21]; exact f21⟩
  ·exact ⟨by show c[22]? = some (.int .i64 (numAt c 22)); rw [numAt_eq k22]; exact k22, by show I64 (numAt c 22); rw [numAt_eq k22]; exact f22⟩
  ·exact ⟨by show c[23]? = some (.int .i64 (numAt c 23)); rw [numAt_eq k23]; exact k23, by show I64 (numAt c 23); rw [numAt_eq k23]; exact f23⟩
  ·exact ⟨by show c[24]? = some (.int .i64 (numAt c 24)); rw [numAt_eq k24]; exact k24, by show I64 (numAt c 24); rw [numAt_eq k24]; exact f24⟩
  ·exact ⟨by show c[25]? = some (.int .i64 (numAt c 25)); rw [numAt_eq k25]; exact k25, by show I64 (numAt c 25); rw [numAt_eq k25]; exact f25⟩
  ·exact ⟨by show c[34]? = some (.int .i64 (numAt c 34)); rw [numAt_eq k34]; exact k34, by show I64 (numAt c 34); rw [numAt_eq k34]; exact f34⟩
  ·exact ⟨by show c[35]? = some (.int .i64 (numAt c 35)); rw [numAt_eq k35]; exact k35, by show I64 (numAt c 35); rw [numAt_eq k35]; exact f35⟩
  ·exact ⟨by show c[36]? = some (.int .i64 (numAt c 36)); rw [numAt_eq k36]; exact k36, by show I64 (numAt c 36); rw [numAt_eq k36]; exact f36⟩
  ·exact ⟨by show c[37]? = some (.int .i64 (numAt c 37)); rw [numAt_eq k37]; exact k37, by show I64 (numAt c 37); rw [numAt_eq k37]; exact f37⟩
  ·exact ⟨by show c[38]? = some (.int .i64 (numAt c 38)); rw [numAt_eq k38]; exact k38, by show I64 (numAt c 38); rw [numAt_eq k38]; exact f38⟩
  ·exact ⟨by show c[39]? = some (.int .i64 (numAt c 39)); rw [numAt_eq k39]; exact k39, by show I64 (numAt c 39); rw [numAt_eq k39]; exact f39⟩
  ·exact ⟨by show c[40]? = some (.int .i64 (numAt c 40)); rw [numAt_eq k40]; exact k40, by show I64 (numAt c 40); rw [numAt_eq k40]; exact f40⟩
  ·exact ⟨by show c[41]? = some (.int .i64 (numAt c 41)); rw [numAt_eq k41]; exact k41, by show I64 (numAt c 41); rw [numAt_eq k41]; exact f41⟩
  ·exact ⟨by show c[44]? = some (.int .i64 (numAt c 44)); rw [numAt_eq k44]; exact k44, by show I64 (numAt c 44); rw [numAt_eq k44]; exact f44⟩
 ·simp only [lOffs, List.mem_cons, List.not_mem_nil, or_false] at ho
  rcases ho with rfl | rfl | rfl | rfl | rfl | rfl | rfl | rfl | rfl | rfl
  ·exact ⟨_, _, _, k11, f11⟩
  ·exact ⟨_, _, _, k12, f12⟩
  ·exact ⟨_, _, _, k26, f26⟩
  ·exact ⟨_, _, _, k27, f27⟩
  ·exact ⟨_, _, _, k28, f28⟩
  ·exact ⟨_, _, _, k29, f29⟩
  ·exact ⟨_, _, _, k30, f30⟩
  ·exact ⟨_, _, _, k31, f31⟩
  ·exact ⟨_, _, _, k32, f32⟩
  ·exact ⟨_, _, _, k33, f33⟩
 ·refine ⟨?_, ?_, ?_, ?_, ?_, ?_⟩
  ·show ((l11.length + 1) + ((l12.length + 1) + ((l26.length + 1) + ((l27.length + 1) + ((l28.length + 1) + ((l29.length + 1) + ((l30.length + 1) + ((l31.length + 1) + ((l32.length + 1) + ((l33.length + 1) + 0)))))))))) ≤ 11000000
   omega
  ·show s5.size ≤ _
   omega
  ·show s45.size ≤ _
   omega
  ·show l43.length ≤ _
   omega
  ·show totE l43 ≤ _
   omega
  ·obtain ⟨_, _, _, _, _, hok, _⟩ := f43
   exact hok
theorem open_msg {r : Reach} {b0 : Nat} {v : Value} {d : DataW H} {p : List MemPlace} (hN : Rows.uptoBulk d ≤ 1048576) (hv : Value.okWide Try.prog W r b0 41 v) (h : DataW.Trod enc Try.prog W 0 (fun _ => true) true 41 v d p) : ∃ cs q, v = .agg cs.toArray ∧ MsgV W cs q ∧ Sm q := by
 obtain ⟨fuel, hf⟩ := h
 obtain ⟨q, h1, h2⟩ := open_msgc (c := v.cells.toList) (y := d) hN ⟨fuel, _, hf, rfl⟩
 refine ⟨_, q, ?_, h1, h2⟩
 cases v with
 | agg cs => simp [Value.cells]
 | _ =>
  have := h1.len
  simp [Value.cells] at this
end
end Go.Proofs.Ytpbgelhjbfckcaa
