/- Valid of the client and Valid of the reference say the same of a message (plain). -/
import Derived.Test.YtpbgelhjbfckcaaV26
import Derived.Test.YtpbgelhjbfckcaaV27
import Derived.Test.YtpbgelhjbfckcaaV28
import Derived.Test.YtpbgelhjbfckcaaV29
import Derived.Test.YtpbgelhjbfckcaaV30
import Derived.Test.YtpbgelhjbfckcaaV31
namespace Go.Proofs.Ytpbgelhjbfckcaa
set_option maxRecDepth 100000
set_option linter.unusedVariables false
set_option linter.unusedSimpArgs false
open Go.ChangeShapes Go.WideShapes Go.ChangeAt Go.RowKit
theorem ba_of_size {s : ByteArray} (h : s.size = 0) : s = ⟨#[]⟩ := by
 cases s with
 | mk d => congr; exact Array.eq_empty_of_size_eq_zero h
theorem SameP.zn {a b : PM} (h : SameP a b) (o : Nat) (ho : o ∈ iOffs := by decide) : b.n o = a.n o := (h.n o ho).symm
theorem SameP.zl {a b : PM} (h : SameP a b) (o : Nat) (ho : o ∈ lOffs := by decide) : b.li o = a.li o := (h.li o ho).symm
section
variable {w : World} {cs : List Value} {p : PM}
theorem lenL (h : MsgV w cs p) (o : Nat) (ho : o ∈ lOffs) : lenAt cs o = (p.li o).length := by
 obtain ⟨A, n, c, e, hl⟩ := h.S o ho
 rw [lenAt_eq e]
 obtain ⟨_, _, _, e2, h1, _⟩ := hl.form
 injection e2 with _ e2 _
 rw [e2]; exact h1.out
theorem len43 (h : MsgV w cs p) : lenAt cs 43 = p.l.length := by
 obtain ⟨A, n, c, e, hl⟩ := h.E
 rw [lenAt_eq e]
 obtain ⟨_, _, _, e2, h1, _⟩ := hl.form
 injection e2 with _ e2 _
 rw [e2]; exact h1.out
theorem validP_iff {ml : List Int} {ix : List Nat} (hix : usedIx cs = some ix) : validP cs ml = true ↔ (∀ k ∈ ix, vF cs ml k = true) ∧ ∀ k, k < 14 → k ∉ ix → zF cs k = true := by
 rw [validP_some hix, Bool.and_eq_true, List.all_eq_true, List.all_eq_true]
 refine and_congr Iff.rfl ⟨fun h k hk hn => ?_, fun h k hk => ?_⟩
 ·have := h k (List.mem_range.2 hk)
  simpa [hn] using this
 ·by_cases hm : k ∈ ix
  ·simp [hm]
  ·simp [h k (List.mem_range.1 hk) hm]
theorem zF0_iff (h : MsgV w cs p) : zF cs 0 = true ↔ (p.n 1 = 0) := by
 show decide (numAt cs 1 = 0) = true ↔ _
 rw [numAt_eq (h.N 1 (by decide)).1]
 simp
theorem vF0_iff (h : MsgV w cs p) : vF cs (p.li 33) 0 = true ↔ (0 ≤ p.n 1 ∧ p.n 1 ≤ 8) := by
 show inB (numAt cs 1) 0 8 = true ↔ _
 rw [numAt_eq (h.N 1 (by decide)).1]
 simp [inB]
theorem zF1_iff (h : MsgV w cs p) : zF cs 1 = true ↔ (p.n 2 = 0) := by
 show decide (numAt cs 2 = 0) = true ↔ _
 rw [numAt_eq (h.N 2 (by decide)).1]
 simp
theorem vF1_iff (h : MsgV w cs p) : vF cs (p.li 33) 1 = true ↔ (1 ≤ p.n 2 ∧ p.n 2 ≤ 8) := by
 show inB (numAt cs 2) 1 8 = true ↔ _
 rw [numAt_eq (h.N 2 (by decide)).1]
 simp [inB]
theorem zF2_iff (h : MsgV w cs p) : zF cs 2 = true ↔ (p.n 3 = 0) := by
 show decide (numAt cs 3 = 0) = true ↔ _
 rw [numAt_eq (h.N 3 (by decide)).1]
 simp
theorem vF2_iff (h : MsgV w cs p) : vF cs (p.li 33) 2 = true ↔ (1 ≤ p.n 3 ∧ p.n 3 ≤ 9223372036854775807) := by
 show inB (numAt cs 3) 1 9223372036854775807 = true ↔ _
 rw [numAt_eq (h.N 3 (by decide)).1]
 simp [inB]
theorem zF3_iff (h : MsgV w cs p) : zF cs 3 = true ↔ (p.n 4 = 0) := by
 show decide (numAt cs 4 = 0) = true ↔ _
 rw [numAt_eq (h.N 4 (by decide)).1]
 simp
theorem vF3_iff (h : MsgV w cs p) : vF cs (p.li 33) 3 = true ↔ (0 ≤ p.n 4 ∧ p.n 4 ≤ 17) := by
 show inB (numAt cs 4) 0 17 = true ↔ _
 rw [numAt_eq (h.N 4 (by decide)).1]
 simp [inB]
theorem zF4_iff (h : MsgV w cs p) : zF cs 4 = true ↔ (p.n 6 = 0) := by
 show decide (numAt cs 6 = 0) = true ↔ _
 rw [numAt_eq (h.N 6 (by decide)).1]
 simp
theorem vF4_iff (h : MsgV w cs p) : vF cs (p.li 33) 4 = true ↔ (0 ≤ p.n 6 ∧ p.n 6 ≤ 9223372036854775807) := by
 show inB (numAt cs 6) 0 9223372036854775807 = true ↔ _
 rw [numAt_eq (h.N 6 (by decide)).1]
 simp [inB]
theorem zF5_iff (h : MsgV w cs p) : zF cs 5 = true ↔ (p.n 7 = 0) := by
 show decide (numAt cs 7 = 0) = true ↔ _
 rw [numAt_eq (h.N 7 (by decide)).1]
 simp
theorem vF5_iff (h : MsgV w cs p) : vF cs (p.li 33) 5 = true ↔ (1 ≤ p.n 7 ∧ p.n 7 ≤ 9223372036854775807) := by
 show inB (numAt cs 7) 1 9223372036854775807 = true ↔ _
 rw [numAt_eq (h.N 7 (by decide)).1]
 simp [inB]
theorem zF6_iff (h : MsgV w cs p) : zF cs 6 = true ↔ (p.n 8 = 0) := by
 show decide (numAt cs 8 = 0) = true ↔ _
 rw [numAt_eq (h.N 8 (by decide)).1]
 simp
theorem vF6_iff (h : MsgV w cs p) : vF cs (p.li 33) 6 = true ↔ (1 ≤ p.n 8 ∧ p.n 8 ≤ 9223372036854775807) := by
 show inB (numAt cs 8) 1 9223372036854775807 = true ↔ _
 rw [numAt_eq (h.N 8 (by decide)).1]
 simp [inB]
theorem zF7_iff (h : MsgV w cs p) : zF cs 7 = true ↔ (p.body.size = 0) := by
 show decide ((strAt cs 5).size = 0) = true ↔ _
 rw [strAt_eq h.body]
 simp
theorem vF7_iff (h : MsgV w cs p) : vF cs (p.li 33) 7 = true ↔ (p.body.size ≤ 4096) := by
 show decide ((strAt cs 5).size ≤ 4096) = true ↔ _
 rw [strAt_eq h.body]
 simp
theorem zF8_iff (h : MsgV w cs p) : zF cs 8 = true ↔ (p.n 17 = 0) := by
 show decide (numAt cs 17 = 0) = true ↔ _
 rw [numAt_eq (h.N 17 (by decide)).1]
 simp
theorem vF8_iff (h : MsgV w cs p) : vF cs (p.li 33) 8 = true ↔ (True) := by
 exact ⟨fun _ => trivial, fun _ => rfl⟩
theorem zF9_iff (h : MsgV w cs p) : zF cs 9 = true ↔ (p.n 9 = 0 ∧ p.n 10 = 0 ∧ p.li 11 = [] ∧ p.li 12 = []) := by
 show zeroP cs [9, 10] [11, 12] = true ↔ _
 simp only [zeroP, List.all_cons, List.all_nil]
 rw [numAt_eq (h.N 9 (by decide)).1, numAt_eq (h.N 10 (by decide)).1, lenL h 11 (by decide), lenL h 12 (by decide)]
 simp [List.length_eq_zero_iff, and_assoc]
theorem vF9_iff (h : MsgV w cs p) : vF cs (p.li 33) 9 = true ↔ (True) := by
 exact ⟨fun _ => trivial, fun _ => rfl⟩
theorem zF10_iff (h : MsgV w cs p) : zF cs 10 = true ↔ (p.n 13 = 0 ∧ p.n 14 = 0 ∧ p.n 15 = 0 ∧ p.n 16 = 0) := by
 show (zeroP cs [13, 14, 15] [] && decide (numAt cs 16 = 0)) = true ↔ _
 simp only [zeroP, List.all_cons, List.all_nil]
 rw [numAt_eq (h.N 13 (by decide)).1, numAt_eq (h.N 14 (by decide)).1, numAt_eq (h.N 15 (by decide)).1, numAt_eq (h.N 16 (by decide)).1]
 simp [and_assoc]
theorem vF10_iff (h : MsgV w cs p) : vF cs (p.li 33) 10 = true ↔ (0 ≤ p.n 13 ∧ p.n 13 ≤ 5 ∧ 1 ≤ p.n 14 ∧ p.n 14 ≤ 8 ∧ 0 ≤ p.n 15) := by
 show uOk (numAt cs 13) (numAt cs 14) (numAt cs 15) = true ↔ _
 rw [numAt_eq (h.N 13 (by decide)).1, numAt_eq (h.N 14 (by decide)).1, numAt_eq (h.N 15 (by decide)).1]
 simp [uOk, and_assoc]
theorem zF11_iff (h : MsgV w cs p) : zF cs 11 = true ↔ (p.li 33 = []) := by
 show zeroP cs [] [33] = true ↔ _
 simp only [zeroP, List.all_cons, List.all_nil]
 rw [lenL h 33 (by decide)]
 simp [List.length_eq_zero_iff, and_assoc]
theorem vF11_iff (h : MsgV w cs p) : vF cs (p.li 33) 11 = true ↔ (incr (p.li 33) = true) := by
 exact Iff.rfl
theorem zF12_iff (h : MsgV w cs p) : zF cs 12 = true ↔ (p.n 18 = 0 ∧ p.n 19 = 0 ∧ p.n 20 = 0 ∧ p.n 21 = 0 ∧ p.n 22 = 0 ∧ p.n 23 = 0 ∧ p.n 24 = 0 ∧ p.n 25 = 0 ∧ p.li 26 = [] ∧ p.li 27 = [] ∧ p.li 28 = [] ∧ p.li 29 = [] ∧ p.li 30 = [] ∧ p.li 31 = [] ∧ p.li 32 = []) := by
 show zeroP cs [18, 19, 20, 21, 22, 23, 24, 25] [26, 27, 28, 29, 30, 31, 32] = true ↔ _
 simp only [zeroP, List.all_cons, List.all_nil]
 rw [numAt_eq (h.N 18 (by decide)).1, numAt_eq (h.N 19 (by decide)).1, numAt_eq (h.N 20 (by decide)).1, numAt_eq (h.N 21 (by decide)).1, numAt_eq (h.N 22 (by decide)).1, numAt_eq (h.N 23 (by decide)).1, numAt_eq (h.N 24 (by decide)).1, numAt_eq (h.N 25 (by decide)).1, lenL h 26 (by decide), lenL h 27 (by decide), lenL h 28 (by decide), lenL h 29 (by decide), lenL h 30 (by decide), lenL h 31 (by decide), lenL h 32 (by decide)]
 simp [List.length_eq_zero_iff, and_assoc]
theorem vF12_iff (h : MsgV w cs p) : vF cs (p.li 33) 12 = true ↔ (True) := by
 exact ⟨fun _ => trivial, fun _ => rfl⟩
theorem zF13_iff (h : MsgV w cs p) : zF cs 13 = true ↔ (p.n 34 = 0 ∧ p.n 35 = 0 ∧ p.n 36 = 0 ∧ p.n 37 = 0 ∧ p.n 38 = 0 ∧ p.n 39 = 0 ∧ p.n 40 = 0 ∧ p.n 41 = 0 ∧ p.n 44 = 0 ∧ p.l = [] ∧ p.d.size = 0 ∧ p.gr = false ∧ p.dn = false) := by
 show gmZ [numAt cs 34, numAt cs 35, numAt cs 36, numAt cs 37, numAt cs 38, numAt cs 39, numAt cs 40, numAt cs 41, numAt cs 44, (lenAt cs 43 : Int), ((strAt cs 45).size : Int)] (boolAt cs 42) (boolAt cs 46) = true ↔ _
 rw [numAt_eq (h.N 34 (by decide)).1, numAt_eq (h.N 35 (by decide)).1, numAt_eq (h.N 36 (by decide)).1, numAt_eq (h.N 37 (by decide)).1, numAt_eq (h.N 38 (by decide)).1, numAt_eq (h.N 39 (by decide)).1, numAt_eq (h.N 40 (by decide)).1, numAt_eq (h.N 41 (by decide)).1, numAt_eq (h.N 44 (by decide)).1, len43 h, strAt_eq h.d, boolAt_eq h.gr, boolAt_eq h.dn]
 simp [gmZ, List.all_cons, List.length_eq_zero_iff, and_assoc]
theorem vF13_iff (h : MsgV w cs p) : vF cs (p.li 33) 13 = true ↔ (True) := by
 exact ⟨fun _ => trivial, fun _ => rfl⟩
theorem valid0_iff (h : MsgV w cs p) (hk : p.n 0 = 0) : validP cs (p.li 33) = true ↔ (SameP (uPM0 p) p ∧ True ∧ incr (p.li 33) = true ∧ (0 ≤ p.n 1 ∧ p.n 1 ≤ 8 ∧ 0 ≤ p.n 4 ∧ p.n 4 ≤ 17 ∧ p.body.size ≤ 4096 ∧ 0 ≤ p.n 6)) := by
 have hix : usedIx cs = some [13] := by unfold usedIx; rw [numAt_eq (h.N 0 (by decide)).1, hk]; rfl
 rw [validP_iff hix]
 constructor
 ·rintro ⟨hv, hz⟩
  have a13 := (vF13_iff h).1 (hv 13 (by decide))
  have b0 := (zF0_iff h).1 (hz 0 (by decide) (by decide))
  have b1 := (zF1_iff h).1 (hz 1 (by decide) (by decide))
  have b2 := (zF2_iff h).1 (hz 2 (by decide) (by decide))
  have b3 := (zF3_iff h).1 (hz 3 (by decide) (by decide))
  have b4 := (zF4_iff h).1 (hz 4 (by decide) (by decide))
  have b5 := (zF5_iff h).1 (hz 5 (by decide) (by decide))
  have b6 := (zF6_iff h).1 (hz 6 (by decide) (by decide))
  have b7 := (zF7_iff h).1 (hz 7 (by decide) (by decide))
  have b8 := (zF8_iff h).1 (hz 8 (by decide) (by decide))
  have b9 := (zF9_iff h).1 (hz 9 (by decide) (by decide))
  have b10 := (zF10_iff h).1 (hz 10 (by decide) (by decide))
  have b11 := (zF11_iff h).1 (hz 11 (by decide) (by decide))
  have b12 := (zF12_iff h).1 (hz 12 (by decide) (by decide))
  refine ⟨⟨fun o ho => ?_, fun o ho => ?_, (ba_of_size b7).symm, rfl, rfl, rfl, rfl⟩, trivial, (by rw [b11]; rfl), ?_⟩
  ·obtain ⟨_, _, _, _⟩ := b9; obtain ⟨_, _, _, _⟩ := b10; obtain ⟨_, _, _, _, _, _, _, _, _, _, _, _, _, _, _⟩ := b12; simp only [iOffs, List.mem_cons, List.not_mem_nil, or_false] at ho
   rcases ho with rfl | rfl | rfl | rfl | rfl | rfl | rfl | rfl | rfl | rfl | rfl | rfl | rfl | rfl | rfl | rfl | rfl | rfl | rfl | rfl | rfl | rfl | rfl | rfl | rfl | rfl | rfl | rfl | rfl | rfl | rfl | rfl
   all_goals first | rfl | exact Eq.symm (by assumption)
  ·obtain ⟨_, _, _, _⟩ := b9; obtain ⟨_, _, _, _⟩ := b10; obtain ⟨_, _, _, _, _, _, _, _, _, _, _, _, _, _, _⟩ := b12; simp only [lOffs, List.mem_cons, List.not_mem_nil, or_false] at ho
   rcases ho with rfl | rfl | rfl | rfl | rfl | rfl | rfl | rfl | rfl | rfl
   all_goals first | rfl | exact Eq.symm (by assumption)
  ·refine ⟨?_, ?_, ?_, ?_, ?_, ?_⟩ <;> omega
 ·rintro ⟨hs, hc, hi, he⟩
  have yb : p.body.size = 0 := by rw [← hs.body]; rfl
  have hl : ∀ k, k < 14 → k ∉ ([13] : List Nat) → k = 0 ∨ k = 1 ∨ k = 2 ∨ k = 3 ∨ k = 4 ∨ k = 5 ∨ k = 6 ∨ k = 7 ∨ k = 8 ∨ k = 9 ∨ k = 10 ∨ k = 11 ∨ k = 12 := by decide
  refine ⟨fun k hk => ?_, fun k hk hn => ?_⟩
  ·simp only [List.mem_cons, List.not_mem_nil, or_false] at hk
   rcases hk with rfl
   ·exact (vF13_iff h).2 trivial
  ·rcases hl k hk hn with rfl | rfl | rfl | rfl | rfl | rfl | rfl | rfl | rfl | rfl | rfl | rfl | rfl
   ·exact (zF0_iff h).2 (hs.zn 1)
   ·exact (zF1_iff h).2 (hs.zn 2)
   ·exact (zF2_iff h).2 (hs.zn 3)
   ·exact (zF3_iff h).2 (hs.zn 4)
   ·exact (zF4_iff h).2 (hs.zn 6)
   ·exact (zF5_iff h).2 (hs.zn 7)
   ·exact (zF6_iff h).2 (hs.zn 8)
   ·exact (zF7_iff h).2 yb
   ·exact (zF8_iff h).2 (hs.zn 17)
   ·exact (zF9_iff h).2 ⟨hs.zn 9, hs.zn 10, hs.zl 11, hs.zl 12⟩
   ·exact (zF10_iff h).2 ⟨hs.zn 13, hs.zn 14, hs.zn 15, hs.zn 16⟩
   ·exact (zF11_iff h).2 (hs.zl 33)
   ·exact (zF12_iff h).2 ⟨hs.zn 18, hs.zn 19, hs.zn 20, hs.zn 21, hs.zn 22, hs.zn 23, hs.zn 24, hs.zn 25, hs.zl 26, hs.zl 27, hs.zl 28, hs.zl 29, hs.zl 30, hs.zl 31, hs.zl 32⟩
theorem valid1_iff (h : MsgV w cs p) (hk : p.n 0 = 1) : validP cs (p.li 33) = true ↔ (SameP (uPM1 p) p ∧ (1 ≤ p.n 2 ∧ p.n 2 ≤ 8 ∧ 1 ≤ p.n 3) ∧ incr (p.li 33) = true ∧ (0 ≤ p.n 1 ∧ p.n 1 ≤ 8 ∧ 0 ≤ p.n 4 ∧ p.n 4 ≤ 17 ∧ p.body.size ≤ 4096 ∧ 0 ≤ p.n 6)) := by
 have hix : usedIx cs = some [0, 1, 2, 7] := by unfold usedIx; rw [numAt_eq (h.N 0 (by decide)).1, hk]; rfl
 have i1 := (h.N 1 (by decide)).2
 have i2 := (h.N 2 (by decide)).2
 have i3 := (h.N 3 (by decide)).2
 unfold I64 at i1 i2 i3
 rw [validP_iff hix]
 constructor
 ·rintro ⟨hv, hz⟩
  have a0 := (vF0_iff h).1 (hv 0 (by decide))
  have a1 := (vF1_iff h).1 (hv 1 (by decide))
  have a2 := (vF2_iff h).1 (hv 2 (by decide))
  have a7 := (vF7_iff h).1 (hv 7 (by decide))
  have b3 := (zF3_iff h).1 (hz 3 (by decide) (by decide))
  have b4 := (zF4_iff h).1 (hz 4 (by decide) (by decide))
  have b5 := (zF5_iff h).1 (hz 5 (by decide) (by decide))
  have b6 := (zF6_iff h).1 (hz 6 (by decide) (by decide))
  have b8 := (zF8_iff h).1 (hz 8 (by decide) (by decide))
  have b9 := (zF9_iff h).1 (hz 9 (by decide) (by decide))
  have b10 := (zF10_iff h).1 (hz 10 (by decide) (by decide))
  have b11 := (zF11_iff h).1 (hz 11 (by decide) (by decide))
  have b12 := (zF12_iff h).1 (hz 12 (by decide) (by decide))
  have b13 := (zF13_iff h).1 (hz 13 (by decide) (by decide))
  refine ⟨⟨fun o ho => ?_, fun o ho => ?_, rfl, (b13.2.2.2.2.2.2.2.2.2.2.2.1).symm, (b13.2.2.2.2.2.2.2.2.2.2.2.2).symm, (ba_of_size b13.2.2.2.2.2.2.2.2.2.2.1).symm, (b13.2.2.2.2.2.2.2.2.2.1).symm⟩, (by refine ⟨?_, ?_, ?_⟩ <;> omega), (by rw [b11]; rfl), ?_⟩
  ·obtain ⟨_, _, _, _⟩ := b9; obtain ⟨_, _, _, _⟩ := b10; obtain ⟨_, _, _, _, _, _, _, _, _, _, _, _, _, _, _⟩ := b12; obtain ⟨_, _, _, _, _, _, _, _, _, _, _, _, _⟩ := b13; simp only [iOffs, List.mem_cons, List.not_mem_nil, or_false] at ho
   rcases ho with rfl | rfl | rfl | rfl | rfl | rfl | rfl | rfl | rfl | rfl | rfl | rfl | rfl | rfl | rfl | rfl | rfl | rfl | rfl | rfl | rfl | rfl | rfl | rfl | rfl | rfl | rfl | rfl | rfl | rfl | rfl | rfl
   all_goals first | rfl | exact Eq.symm (by assumption)
  ·obtain ⟨_, _, _, _⟩ := b9; obtain ⟨_, _, _, _⟩ := b10; obtain ⟨_, _, _, _, _, _, _, _, _, _, _, _, _, _, _⟩ := b12; obtain ⟨_, _, _, _, _, _, _, _, _, _, _, _, _⟩ := b13; simp only [lOffs, List.mem_cons, List.not_mem_nil, or_false] at ho
   rcases ho with rfl | rfl | rfl | rfl | rfl | rfl | rfl | rfl | rfl | rfl
   all_goals first | rfl | exact Eq.symm (by assumption)
  ·refine ⟨?_, ?_, ?_, ?_, ?_, ?_⟩ <;> omega
 ·rintro ⟨hs, hc, hi, he⟩
  have yl : p.l = [] := hs.l.symm
  have yd : p.d.size = 0 := by rw [← hs.d]; rfl
  have yg : p.gr = false := hs.gr.symm
  have yn : p.dn = false := hs.dn.symm
  have hl : ∀ k, k < 14 → k ∉ ([0, 1, 2, 7] : List Nat) → k = 3 ∨ k = 4 ∨ k = 5 ∨ k = 6 ∨ k = 8 ∨ k = 9 ∨ k = 10 ∨ k = 11 ∨ k = 12 ∨ k = 13 := by decide
  refine ⟨fun k hk => ?_, fun k hk hn => ?_⟩
  ·simp only [List.mem_cons, List.not_mem_nil, or_false] at hk
   rcases hk with rfl | rfl | rfl | rfl
   ·exact (vF0_iff h).2 (by refine ⟨?_, ?_⟩ <;> omega)
   ·exact (vF1_iff h).2 (by refine ⟨?_, ?_⟩ <;> omega)
   ·exact (vF2_iff h).2 (by refine ⟨?_, ?_⟩ <;> omega)
   ·exact (vF7_iff h).2 he.2.2.2.2.1
  ·rcases hl k hk hn with rfl | rfl | rfl | rfl | rfl | rfl | rfl | rfl | rfl | rfl
   ·exact (zF3_iff h).2 (hs.zn 4)
   ·exact (zF4_iff h).2 (hs.zn 6)
   ·exact (zF5_iff h).2 (hs.zn 7)
   ·exact (zF6_iff h).2 (hs.zn 8)
   ·exact (zF8_iff h).2 (hs.zn 17)
   ·exact (zF9_iff h).2 ⟨hs.zn 9, hs.zn 10, hs.zl 11, hs.zl 12⟩
   ·exact (zF10_iff h).2 ⟨hs.zn 13, hs.zn 14, hs.zn 15, hs.zn 16⟩
   ·exact (zF11_iff h).2 (hs.zl 33)
   ·exact (zF12_iff h).2 ⟨hs.zn 18, hs.zn 19, hs.zn 20, hs.zn 21, hs.zn 22, hs.zn 23, hs.zn 24, hs.zn 25, hs.zl 26, hs.zl 27, hs.zl 28, hs.zl 29, hs.zl 30, hs.zl 31, hs.zl 32⟩
   ·exact (zF13_iff h).2 ⟨hs.zn 34, hs.zn 35, hs.zn 36, hs.zn 37, hs.zn 38, hs.zn 39, hs.zn 40, hs.zn 41, hs.zn 44, yl, yd, yg, yn⟩
theorem valid2_iff (h : MsgV w cs p) (hk : p.n 0 = 2) : validP cs (p.li 33) = true ↔ (SameP (uPM2 p) p ∧ (1 ≤ p.n 2 ∧ p.n 2 ≤ 8 ∧ 1 ≤ p.n 3) ∧ incr (p.li 33) = true ∧ (0 ≤ p.n 1 ∧ p.n 1 ≤ 8 ∧ 0 ≤ p.n 4 ∧ p.n 4 ≤ 17 ∧ p.body.size ≤ 4096 ∧ 0 ≤ p.n 6)) := by
 have hix : usedIx cs = some [0, 1, 2, 3, 7, 4] := by unfold usedIx; rw [numAt_eq (h.N 0 (by decide)).1, hk]; rfl
 have i1 := (h.N 1 (by decide)).2
 have i2 := (h.N 2 (by decide)).2
 have i3 := (h.N 3 (by decide)).2
 have i4 := (h.N 4 (by decide)).2
 have i6 := (h.N 6 (by decide)).2
 unfold I64 at i1 i2 i3 i4 i6
 rw [validP_iff hix]
 constructor
 ·rintro ⟨hv, hz⟩
  have a0 := (vF0_iff h).1 (hv 0 (by decide))
  have a1 := (vF1_iff h).1 (hv 1 (by decide))
  have a2 := (vF2_iff h).1 (hv 2 (by decide))
  have a3 := (vF3_iff h).1 (hv 3 (by decide))
  have a7 := (vF7_iff h).1 (hv 7 (by decide))
  have a4 := (vF4_iff h).1 (hv 4 (by decide))
  have b5 := (zF5_iff h).1 (hz 5 (by decide) (by decide))
  have b6 := (zF6_iff h).1 (hz 6 (by decide) (by decide))
  have b8 := (zF8_iff h).1 (hz 8 (by decide) (by decide))
  have b9 := (zF9_iff h).1 (hz 9 (by decide) (by decide))
  have b10 := (zF10_iff h).1 (hz 10 (by decide) (by decide))
  have b11 := (zF11_iff h).1 (hz 11 (by decide) (by decide))
  have b12 := (zF12_iff h).1 (hz 12 (by decide) (by decide))
  have b13 := (zF13_iff h).1 (hz 13 (by decide) (by decide))
  refine ⟨⟨fun o ho => ?_, fun o ho => ?_, rfl, (b13.2.2.2.2.2.2.2.2.2.2.2.1).symm, (b13.2.2.2.2.2.2.2.2.2.2.2.2).symm, (ba_of_size b13.2.2.2.2.2.2.2.2.2.2.1).symm, (b13.2.2.2.2.2.2.2.2.2.1).symm⟩, (by refine ⟨?_, ?_, ?_⟩ <;> omega), (by rw [b11]; rfl), ?_⟩
  ·obtain ⟨_, _, _, _⟩ := b9; obtain ⟨_, _, _, _⟩ := b10; obtain ⟨_, _, _, _, _, _, _, _, _, _, _, _, _, _, _⟩ := b12; obtain ⟨_, _, _, _, _, _, _, _, _, _, _, _, _⟩ := b13; simp only [iOffs, List.mem_cons, List.not_mem_nil, or_false] at ho
   rcases ho with rfl | rfl | rfl | rfl | rfl | rfl | rfl | rfl | rfl | rfl | rfl | rfl | rfl | rfl | rfl | rfl | rfl | rfl | rfl | rfl | rfl | rfl | rfl | rfl | rfl | rfl | rfl | rfl | rfl | rfl | rfl | rfl
   all_goals first | rfl | exact Eq.symm (by assumption)
  ·obtain ⟨_, _, _, _⟩ := b9; obtain ⟨_, _, _, _⟩ := b10; obtain ⟨_, _, _, _, _, _, _, _, _, _, _, _, _, _, _⟩ := b12; obtain ⟨_, _, _, _, _, _, _, _, _, _, _, _, _⟩ := b13; simp only [lOffs, List.mem_cons, List.not_mem_nil, or_false] at ho
   rcases ho with rfl | rfl | rfl | rfl | rfl | rfl | rfl | rfl | rfl | rfl
   all_goals first | rfl | exact Eq.symm (by assumption)
  ·refine ⟨?_, ?_, ?_, ?_, ?_, ?_⟩ <;> omega
 ·rintro ⟨hs, hc, hi, he⟩
  have yl : p.l = [] := hs.l.symm
  have yd : p.d.size = 0 := by rw [← hs.d]; rfl
  have yg : p.gr = false := hs.gr.symm
  have yn : p.dn = false := hs.dn.symm
  have hl : ∀ k, k < 14 → k ∉ ([0, 1, 2, 3, 7, 4] : List Nat) → k = 5 ∨ k = 6 ∨ k = 8 ∨ k = 9 ∨ k = 10 ∨ k = 11 ∨ k = 12 ∨ k = 13 := by decide
  refine ⟨fun k hk => ?_, fun k hk hn => ?_⟩
  ·simp only [List.mem_cons, List.not_mem_nil, or_false] at hk
   rcases hk with rfl | rfl | rfl | rfl | rfl | rfl
   ·exact (vF0_iff h).2 (by refine ⟨?_, ?_⟩ <;> omega)
   ·exact (vF1_iff h).2 (by refine ⟨?_, ?_⟩ <;> omega)
   ·exact (vF2_iff h).2 (by refine ⟨?_, ?_⟩ <;> omega)
   ·exact (vF3_iff h).2 (by refine ⟨?_, ?_⟩ <;> omega)
   ·exact (vF7_iff h).2 he.2.2.2.2.1
   ·exact (vF4_iff h).2 (by refine ⟨?_, ?_⟩ <;> omega)
  ·rcases hl k hk hn with rfl | rfl | rfl | rfl | rfl | rfl | rfl | rfl
   ·exact (zF5_iff h).2 (hs.zn 7)
   ·exact (zF6_iff h).2 (hs.zn 8)
   ·exact (zF8_iff h).2 (hs.zn 17)
   ·exact (zF9_iff h).2 ⟨hs.zn 9, hs.zn 10, hs.zl 11, hs.zl 12⟩
   ·exact (zF10_iff h).2 ⟨hs.zn 13, hs.zn 14, hs.zn 15, hs.zn 16⟩
   ·exact (zF11_iff h).2 (hs.zl 33)
   ·exact (zF12_iff h).2 ⟨hs.zn 18, hs.zn 19, hs.zn 20, hs.zn 21, hs.zn 22, hs.zn 23, hs.zn 24, hs.zn 25, hs.zl 26, hs.zl 27, hs.zl 28, hs.zl 29, hs.zl 30, hs.zl 31, hs.zl 32⟩
   ·exact (zF13_iff h).2 ⟨hs.zn 34, hs.zn 35, hs.zn 36, hs.zn 37, hs.zn 38, hs.zn 39, hs.zn 40, hs.zn 41, hs.zn 44, yl, yd, yg, yn⟩
theorem valid3_iff (h : MsgV w cs p) (hk : p.n 0 = 3) : validP cs (p.li 33) = true ↔ (SameP (uPM3 p) p ∧ (1 ≤ p.n 7 ∧ 1 ≤ p.n 8) ∧ incr (p.li 33) = true ∧ (0 ≤ p.n 1 ∧ p.n 1 ≤ 8 ∧ 0 ≤ p.n 4 ∧ p.n 4 ≤ 17 ∧ p.body.size ≤ 4096 ∧ 0 ≤ p.n 6)) := by
 have hix : usedIx cs = some [0, 5, 6, 9] := by unfold usedIx; rw [numAt_eq (h.N 0 (by decide)).1, hk]; rfl
 have i1 := (h.N 1 (by decide)).2
 have i7 := (h.N 7 (by decide)).2
 have i8 := (h.N 8 (by decide)).2
 unfold I64 at i1 i7 i8
 rw [validP_iff hix]
 constructor
 ·rintro ⟨hv, hz⟩
  have a0 := (vF0_iff h).1 (hv 0 (by decide))
  have a5 := (vF5_iff h).1 (hv 5 (by decide))
  have a6 := (vF6_iff h).1 (hv 6 (by decide))
  have a9 := (vF9_iff h).1 (hv 9 (by decide))
  have b1 := (zF1_iff h).1 (hz 1 (by decide) (by decide))
  have b2 := (zF2_iff h).1 (hz 2 (by decide) (by decide))
  have b3 := (zF3_iff h).1 (hz 3 (by decide) (by decide))
  have b4 := (zF4_iff h).1 (hz 4 (by decide) (by decide))
  have b7 := (zF7_iff h).1 (hz 7 (by decide) (by decide))
  have b8 := (zF8_iff h).1 (hz 8 (by decide) (by decide))
  have b10 := (zF10_iff h).1 (hz 10 (by decide) (by decide))
  have b11 := (zF11_iff h).1 (hz 11 (by decide) (by decide))
  have b12 := (zF12_iff h).1 (hz 12 (by decide) (by decide))
  have b13 := (zF13_iff h).1 (hz 13 (by decide) (by decide))
  refine ⟨⟨fun o ho => ?_, fun o ho => ?_, (ba_of_size b7).symm, (b13.2.2.2.2.2.2.2.2.2.2.2.1).symm, (b13.2.2.2.2.2.2.2.2.2.2.2.2).symm, (ba_of_size b13.2.2.2.2.2.2.2.2.2.2.1).symm, (b13.2.2.2.2.2.2.2.2.2.1).symm⟩, (by refine ⟨?_, ?_⟩ <;> omega), (by rw [b11]; rfl), ?_⟩
  ·obtain ⟨_, _, _, _⟩ := b10; obtain ⟨_, _, _, _, _, _, _, _, _, _, _, _, _, _, _⟩ := b12; obtain ⟨_, _, _, _, _, _, _, _, _, _, _, _, _⟩ := b13; simp only [iOffs, List.mem_cons, List.not_mem_nil, or_false] at ho
   rcases ho with rfl | rfl | rfl | rfl | rfl | rfl | rfl | rfl | rfl | rfl | rfl | rfl | rfl | rfl | rfl | rfl | rfl | rfl | rfl | rfl | rfl | rfl | rfl | rfl | rfl | rfl | rfl | rfl | rfl | rfl | rfl | rfl
   all_goals first | rfl | exact Eq.symm (by assumption)
  ·obtain ⟨_, _, _, _⟩ := b10; obtain ⟨_, _, _, _, _, _, _, _, _, _, _, _, _, _, _⟩ := b12; obtain ⟨_, _, _, _, _, _, _, _, _, _, _, _, _⟩ := b13; simp only [lOffs, List.mem_cons, List.not_mem_nil, or_false] at ho
   rcases ho with rfl | rfl | rfl | rfl | rfl | rfl | rfl | rfl | rfl | rfl
   all_goals first | rfl | exact Eq.symm (by assumption)
  ·refine ⟨?_, ?_, ?_, ?_, ?_, ?_⟩ <;> omega
 ·rintro ⟨hs, hc, hi, he⟩
  have yb : p.body.size = 0 := by rw [← hs.body]; rfl
  have yl : p.l = [] := hs.l.symm
  have yd : p.d.size = 0 := by rw [← hs.d]; rfl
  have yg : p.gr = false := hs.gr.symm
  have yn : p.dn = false := hs.dn.symm
  have hl : ∀ k, k < 14 → k ∉ ([0, 5, 6, 9] : List Nat) → k = 1 ∨ k = 2 ∨ k = 3 ∨ k = 4 ∨ k = 7 ∨ k = 8 ∨ k = 10 ∨ k = 11 ∨ k = 12 ∨ k = 13 := by decide
  refine ⟨fun k hk => ?_, fun k hk hn => ?_⟩
  ·simp only [List.mem_cons, List.not_mem_nil, or_false] at hk
   rcases hk with rfl | rfl | rfl | rfl
   ·exact (vF0_iff h).2 (by refine ⟨?_, ?_⟩ <;> omega)
   ·exact (vF5_iff h).2 (by refine ⟨?_, ?_⟩ <;> omega)
   ·exact (vF6_iff h).2 (by refine ⟨?_, ?_⟩ <;> omega)
   ·exact (vF9_iff h).2 trivial
  ·rcases hl k hk hn with rfl | rfl | rfl | rfl | rfl | rfl | rfl | rfl | rfl | rfl
   ·exact (zF1_iff h).2 (hs.zn 2)
   ·exact (zF2_iff h).2 (hs.zn 3)
   ·exact (zF3_iff h).2 (hs.zn 4)
   ·exact (zF4_iff h).2 (hs.zn 6)
   ·exact (zF7_iff h).2 yb
   ·exact (zF8_iff h).2 (hs.zn 17)
   ·exact (zF10_iff h).2 ⟨hs.zn 13, hs.zn 14, hs.zn 15, hs.zn 16⟩
   ·exact (zF11_iff h).2 (hs.zl 33)
   ·exact (zF12_iff h).2 ⟨hs.zn 18, hs.zn 19, hs.zn 20, hs.zn 21, hs.zn 22, hs.zn 23, hs.zn 24, hs.zn 25, hs.zl 26, hs.zl 27, hs.zl 28, hs.zl 29, hs.zl 30, hs.zl 31, hs.zl 32⟩
   ·exact (zF13_iff h).2 ⟨hs.zn 34, hs.zn 35, hs.zn 36, hs.zn 37, hs.zn 38, hs.zn 39, hs.zn 40, hs.zn 41, hs.zn 44, yl, yd, yg, yn⟩
theorem valid4_iff (h : MsgV w cs p) (hk : p.n 0 = 4) : validP cs (p.li 33) = true ↔ (SameP (uPM4 p) p ∧ (1 ≤ p.n 7 ∧ 1 ≤ p.n 8) ∧ incr (p.li 33) = true ∧ (0 ≤ p.n 1 ∧ p.n 1 ≤ 8 ∧ 0 ≤ p.n 4 ∧ p.n 4 ≤ 17 ∧ p.body.size ≤ 4096 ∧ 0 ≤ p.n 6)) := by
 have hix : usedIx cs = some [0, 5, 6, 3, 4] := by unfold usedIx; rw [numAt_eq (h.N 0 (by decide)).1, hk]; rfl
 have i1 := (h.N 1 (by decide)).2
 have i7 := (h.N 7 (by decide)).2
 have i8 := (h.N 8 (by decide)).2
 have i4 := (h.N 4 (by decide)).2
 have i6 := (h.N 6 (by decide)).2
 unfold I64 at i1 i7 i8 i4 i6
 rw [validP_iff hix]
 constructor
 ·rintro ⟨hv, hz⟩
  have a0 := (vF0_iff h).1 (hv 0 (by decide))
  have a5 := (vF5_iff h).1 (hv 5 (by decide))
  have a6 := (vF6_iff h).1 (hv 6 (by decide))
  have a3 := (vF3_iff h).1 (hv 3 (by decide))
  have a4 := (vF4_iff h).1 (hv 4 (by decide))
  have b1 := (zF1_iff h).1 (hz 1 (by decide) (by decide))
  have b2 := (zF2_iff h).1 (hz 2 (by decide) (by decide))
  have b7 := (zF7_iff h).1 (hz 7 (by decide) (by decide))
  have b8 := (zF8_iff h).1 (hz 8 (by decide) (by decide))
  have b9 := (zF9_iff h).1 (hz 9 (by decide) (by decide))
  have b10 := (zF10_iff h).1 (hz 10 (by decide) (by decide))
  have b11 := (zF11_iff h).1 (hz 11 (by decide) (by decide))
  have b12 := (zF12_iff h).1 (hz 12 (by decide) (by decide))
  have b13 := (zF13_iff h).1 (hz 13 (by decide) (by decide))
  refine ⟨⟨fun o ho => ?_, fun o ho => ?_, (ba_of_size b7).symm, (b13.2.2.2.2.2.2.2.2.2.2.2.1).symm, (b13.2.2.2.2.2.2.2.2.2.2.2.2).symm, (ba_of_size b13.2.2.2.2.2.2.2.2.2.2.1).symm, (b13.2.2.2.2.2.2.2.2.2.1).symm⟩, (by refine ⟨?_, ?_⟩ <;> omega), (by rw [b11]; rfl), ?_⟩
  ·obtain ⟨_, _, _, _⟩ := b9; obtain ⟨_, _, _, _⟩ := b10; obtain ⟨_, _, _, _, _, _, _, _, _, _, _, _, _, _, _⟩ := b12; obtain ⟨_, _, _, _, _, _, _, _, _, _, _, _, _⟩ := b13; simp only [iOffs, List.mem_cons, List.not_mem_nil, or_false] at ho
   rcases ho with rfl | rfl | rfl | rfl | rfl | rfl | rfl | rfl | rfl | rfl | rfl | rfl | rfl | rfl | rfl | rfl | rfl | rfl | rfl | rfl | rfl | rfl | rfl | rfl | rfl | rfl | rfl | rfl | rfl | rfl | rfl | rfl
   all_goals first | rfl | exact Eq.symm (by assumption)
  ·obtain ⟨_, _, _, _⟩ := b9; obtain ⟨_, _, _, _⟩ := b10; obtain ⟨_, _, _, _, _, _, _, _, _, _, _, _, _, _, _⟩ := b12; obtain ⟨_, _, _, _, _, _, _, _, _, _, _, _, _⟩ := b13; simp only [lOffs, List.mem_cons, List.not_mem_nil, or_false] at ho
   rcases ho with rfl | rfl | rfl | rfl | rfl | rfl | rfl | rfl | rfl | rfl
   all_goals first | rfl | exact Eq.symm (by assumption)
  ·refine ⟨?_, ?_, ?_, ?_, ?_, ?_⟩ <;> omega
 ·rintro ⟨hs, hc, hi, he⟩
  have yb : p.body.size = 0 := by rw [← hs.body]; rfl
  have yl : p.l = [] := hs.l.symm
  have yd : p.d.size = 0 := by rw [← hs.d]; rfl
  have yg : p.gr = false := hs.gr.symm
  have yn : p.dn = false := hs.dn.symm
  have hl : ∀ k, k < 14 → k ∉ ([0, 5, 6, 3, 4] : List Nat) → k = 1 ∨ k = 2 ∨ k = 7 ∨ k = 8 ∨ k = 9 ∨ k = 10 ∨ k = 11 ∨ k = 12 ∨ k = 13 := by decide
  refine ⟨fun k hk => ?_, fun k hk hn => ?_⟩
  ·simp only [List.mem_cons, List.not_mem_nil, or_false] at hk
   rcases hk with rfl | rfl | rfl | rfl | rfl
   ·exact (vF0_iff h).2 (by refine ⟨?_, ?_⟩ <;> omega)
   ·exact (vF5_iff h).2 (by refine ⟨?_, ?_⟩ <;> omega)
   ·exact (vF6_iff h).2 (by refine ⟨?_, ?_⟩ <;> omega)
   ·exact (vF3_iff h).2 (by refine ⟨?_, ?_⟩ <;> omega)
   ·exact (vF4_iff h).2 (by refine ⟨?_, ?_⟩ <;> omega)
  ·rcases hl k hk hn with rfl | rfl | rfl | rfl | rfl | rfl | rfl | rfl | rfl
   ·exact (zF1_iff h).2 (hs.zn 2)
   ·exact (zF2_iff h).2 (hs.zn 3)
   ·exact (zF7_iff h).2 yb
   ·exact (zF8_iff h).2 (hs.zn 17)
   ·exact (zF9_iff h).2 ⟨hs.zn 9, hs.zn 10, hs.zl 11, hs.zl 12⟩
   ·exact (zF10_iff h).2 ⟨hs.zn 13, hs.zn 14, hs.zn 15, hs.zn 16⟩
   ·exact (zF11_iff h).2 (hs.zl 33)
   ·exact (zF12_iff h).2 ⟨hs.zn 18, hs.zn 19, hs.zn 20, hs.zn 21, hs.zn 22, hs.zn 23, hs.zn 24, hs.zn 25, hs.zl 26, hs.zl 27, hs.zl 28, hs.zl 29, hs.zl 30, hs.zl 31, hs.zl 32⟩
   ·exact (zF13_iff h).2 ⟨hs.zn 34, hs.zn 35, hs.zn 36, hs.zn 37, hs.zn 38, hs.zn 39, hs.zn 40, hs.zn 41, hs.zn 44, yl, yd, yg, yn⟩
theorem valid5_iff (h : MsgV w cs p) (hk : p.n 0 = 5) : validP cs (p.li 33) = true ↔ (SameP (uPM5 p) p ∧ (1 ≤ p.n 7 ∧ 1 ≤ p.n 8 ∧ 0 ≤ p.n 13 ∧ p.n 13 ≤ 5 ∧ 1 ≤ p.n 14 ∧ p.n 14 ≤ 8 ∧ 0 ≤ p.n 15) ∧ incr (p.li 33) = true ∧ (0 ≤ p.n 1 ∧ p.n 1 ≤ 8 ∧ 0 ≤ p.n 4 ∧ p.n 4 ≤ 17 ∧ p.body.size ≤ 4096 ∧ 0 ≤ p.n 6)) := by
 have hix : usedIx cs = some [5, 6, 10] := by unfold usedIx; rw [numAt_eq (h.N 0 (by decide)).1, hk]; rfl
 have i7 := (h.N 7 (by decide)).2
 have i8 := (h.N 8 (by decide)).2
 unfold I64 at i7 i8
 rw [validP_iff hix]
 constructor
 ·rintro ⟨hv, hz⟩
  have a5 := (vF5_iff h).1 (hv 5 (by decide))
  have a6 := (vF6_iff h).1 (hv 6 (by decide))
  have a10 := (vF10_iff h).1 (hv 10 (by decide))
  have b0 := (zF0_iff h).1 (hz 0 (by decide) (by decide))
  have b1 := (zF1_iff h).1 (hz 1 (by decide) (by decide))
  have b2 := (zF2_iff h).1 (hz 2 (by decide) (by decide))
  have b3 := (zF3_iff h).1 (hz 3 (by decide) (by decide))
  have b4 := (zF4_iff h).1 (hz 4 (by decide) (by decide))
  have b7 := (zF7_iff h).1 (hz 7 (by decide) (by decide))
  have b8 := (zF8_iff h).1 (hz 8 (by decide) (by decide))
  have b9 := (zF9_iff h).1 (hz 9 (by decide) (by decide))
  have b11 := (zF11_iff h).1 (hz 11 (by decide) (by decide))
  have b12 := (zF12_iff h).1 (hz 12 (by decide) (by decide))
  have b13 := (zF13_iff h).1 (hz 13 (by decide) (by decide))
  refine ⟨⟨fun o ho => ?_, fun o ho => ?_, (ba_of_size b7).symm, (b13.2.2.2.2.2.2.2.2.2.2.2.1).symm, (b13.2.2.2.2.2.2.2.2.2.2.2.2).symm, (ba_of_size b13.2.2.2.2.2.2.2.2.2.2.1).symm, (b13.2.2.2.2.2.2.2.2.2.1).symm⟩, (by refine ⟨?_, ?_, ?_, ?_, ?_, ?_, ?_⟩ <;> omega), (by rw [b11]; rfl), ?_⟩
  ·obtain ⟨_, _, _, _⟩ := b9; obtain ⟨_, _, _, _, _, _, _, _, _, _, _, _, _, _, _⟩ := b12; obtain ⟨_, _, _, _, _, _, _, _, _, _, _, _, _⟩ := b13; simp only [iOffs, List.mem_cons, List.not_mem_nil, or_false] at ho
   rcases ho with rfl | rfl | rfl | rfl | rfl | rfl | rfl | rfl | rfl | rfl | rfl | rfl | rfl | rfl | rfl | rfl | rfl | rfl | rfl | rfl | rfl | rfl | rfl | rfl | rfl | rfl | rfl | rfl | rfl | rfl | rfl | rfl
   all_goals first | rfl | exact Eq.symm (by assumption)
  ·obtain ⟨_, _, _, _⟩ := b9; obtain ⟨_, _, _, _, _, _, _, _, _, _, _, _, _, _, _⟩ := b12; obtain ⟨_, _, _, _, _, _, _, _, _, _, _, _, _⟩ := b13; simp only [lOffs, List.mem_cons, List.not_mem_nil, or_false] at ho
   rcases ho with rfl | rfl | rfl | rfl | rfl | rfl | rfl | rfl | rfl | rfl
   all_goals first | rfl | exact Eq.symm (by assumption)
  ·refine ⟨?_, ?_, ?_, ?_, ?_, ?_⟩ <;> omega
 ·rintro ⟨hs, hc, hi, he⟩
  have yb : p.body.size = 0 := by rw [← hs.body]; rfl
  have yl : p.l = [] := hs.l.symm
  have yd : p.d.size = 0 := by rw [← hs.d]; rfl
  have yg : p.gr = false := hs.gr.symm
  have yn : p.dn = false := hs.dn.symm
  have hl : ∀ k, k < 14 → k ∉ ([5, 6, 10] : List Nat) → k = 0 ∨ k = 1 ∨ k = 2 ∨ k = 3 ∨ k = 4 ∨ k = 7 ∨ k = 8 ∨ k = 9 ∨ k = 11 ∨ k = 12 ∨ k = 13 := by decide
  refine ⟨fun k hk => ?_, fun k hk hn => ?_⟩
  ·simp only [List.mem_cons, List.not_mem_nil, or_false] at hk
   rcases hk with rfl | rfl | rfl
   ·exact (vF5_iff h).2 (by refine ⟨?_, ?_⟩ <;> omega)
   ·exact (vF6_iff h).2 (by refine ⟨?_, ?_⟩ <;> omega)
   ·exact (vF10_iff h).2 (by refine ⟨?_, ?_, ?_, ?_, ?_⟩ <;> omega)
  ·rcases hl k hk hn with rfl | rfl | rfl | rfl | rfl | rfl | rfl | rfl | rfl | rfl | rfl
   ·exact (zF0_iff h).2 (hs.zn 1)
   ·exact (zF1_iff h).2 (hs.zn 2)
   ·exact (zF2_iff h).2 (hs.zn 3)
   ·exact (zF3_iff h).2 (hs.zn 4)
   ·exact (zF4_iff h).2 (hs.zn 6)
   ·exact (zF7_iff h).2 yb
   ·exact (zF8_iff h).2 (hs.zn 17)
   ·exact (zF9_iff h).2 ⟨hs.zn 9, hs.zn 10, hs.zl 11, hs.zl 12⟩
   ·exact (zF11_iff h).2 (hs.zl 33)
   ·exact (zF12_iff h).2 ⟨hs.zn 18, hs.zn 19, hs.zn 20, hs.zn 21, hs.zn 22, hs.zn 23, hs.zn 24, hs.zn 25, hs.zl 26, hs.zl 27, hs.zl 28, hs.zl 29, hs.zl 30, hs.zl 31, hs.zl 32⟩
   ·exact (zF13_iff h).2 ⟨hs.zn 34, hs.zn 35, hs.zn 36, hs.zn 37, hs.zn 38, hs.zn 39, hs.zn 40, hs.zn 41, hs.zn 44, yl, yd, yg, yn⟩
theorem valid6_iff (h : MsgV w cs p) (hk : p.n 0 = 6) : validP cs (p.li 33) = true ↔ (SameP (uPM6 p) p ∧ (1 ≤ p.n 7 ∧ 1 ≤ p.n 8) ∧ incr (p.li 33) = true ∧ (0 ≤ p.n 1 ∧ p.n 1 ≤ 8 ∧ 0 ≤ p.n 4 ∧ p.n 4 ≤ 17 ∧ p.body.size ≤ 4096 ∧ 0 ≤ p.n 6)) := by
 have hix : usedIx cs = some [5, 6, 3, 8] := by unfold usedIx; rw [numAt_eq (h.N 0 (by decide)).1, hk]; rfl
 have i7 := (h.N 7 (by decide)).2
 have i8 := (h.N 8 (by decide)).2
 have i4 := (h.N 4 (by decide)).2
 unfold I64 at i7 i8 i4
 rw [validP_iff hix]
 constructor
 ·rintro ⟨hv, hz⟩
  have a5 := (vF5_iff h).1 (hv 5 (by decide))
  have a6 := (vF6_iff h).1 (hv 6 (by decide))
  have a3 := (vF3_iff h).1 (hv 3 (by decide))
  have a8 := (vF8_iff h).1 (hv 8 (by decide))
  have b0 := (zF0_iff h).1 (hz 0 (by decide) (by decide))
  have b1 := (zF1_iff h).1 (hz 1 (by decide) (by decide))
  have b2 := (zF2_iff h).1 (hz 2 (by decide) (by decide))
  have b4 := (zF4_iff h).1 (hz 4 (by decide) (by decide))
  have b7 := (zF7_iff h).1 (hz 7 (by decide) (by decide))
  have b9 := (zF9_iff h).1 (hz 9 (by decide) (by decide))
  have b10 := (zF10_iff h).1 (hz 10 (by decide) (by decide))
  have b11 := (zF11_iff h).1 (hz 11 (by decide) (by decide))
  have b12 := (zF12_iff h).1 (hz 12 (by decide) (by decide))
  have b13 := (zF13_iff h).1 (hz 13 (by decide) (by decide))
  refine ⟨⟨fun o ho => ?_, fun o ho => ?_, (ba_of_size b7).symm, (b13.2.2.2.2.2.2.2.2.2.2.2.1).symm, (b13.2.2.2.2.2.2.2.2.2.2.2.2).symm, (ba_of_size b13.2.2.2.2.2.2.2.2.2.2.1).symm, (b13.2.2.2.2.2.2.2.2.2.1).symm⟩, (by refine ⟨?_, ?_⟩ <;> omega), (by rw [b11]; rfl), ?_⟩
  ·obtain ⟨_, _, _, _⟩ := b9; obtain ⟨_, _, _, _⟩ := b10; obtain ⟨_, _, _, _, _, _, _, _, _, _, _, _, _, _, _⟩ := b12; obtain ⟨_, _, _, _, _, _, _, _, _, _, _, _, _⟩ := b13; simp only [iOffs, List.mem_cons, List.not_mem_nil, or_false] at ho
   rcases ho with rfl | rfl | rfl | rfl | rfl | rfl | rfl | rfl | rfl | rfl | rfl | rfl | rfl | rfl | rfl | rfl | rfl | rfl | rfl | rfl | rfl | rfl | rfl | rfl | rfl | rfl | rfl | rfl | rfl | rfl | rfl | rfl
   all_goals first | rfl | exact Eq.symm (by assumption)
  ·obtain ⟨_, _, _, _⟩ := b9; obtain ⟨_, _, _, _⟩ := b10; obtain ⟨_, _, _, _, _, _, _, _, _, _, _, _, _, _, _⟩ := b12; obtain ⟨_, _, _, _, _, _, _, _, _, _, _, _, _⟩ := b13; simp only [lOffs, List.mem_cons, List.not_mem_nil, or_false] at ho
   rcases ho with rfl | rfl | rfl | rfl | rfl | rfl | rfl | rfl | rfl | rfl
   all_goals first | rfl | exact Eq.symm (by assumption)
  ·refine ⟨?_, ?_, ?_, ?_, ?_, ?_⟩ <;> omega
 ·rintro ⟨hs, hc, hi, he⟩
  have yb : p.body.size = 0 := by rw [← hs.body]; rfl
  have yl : p.l = [] := hs.l.symm
  have yd : p.d.size = 0 := by rw [← hs.d]; rfl
  have yg : p.gr = false := hs.gr.symm
  have yn : p.dn = false := hs.dn.symm
  have hl : ∀ k, k < 14 → k ∉ ([5, 6, 3, 8] : List Nat) → k = 0 ∨ k = 1 ∨ k = 2 ∨ k = 4 ∨ k = 7 ∨ k = 9 ∨ k = 10 ∨ k = 11 ∨ k = 12 ∨ k = 13 := by decide
  refine ⟨fun k hk => ?_, fun k hk hn => ?_⟩
  ·simp only [List.mem_cons, List.not_mem_nil, or_false] at hk
   rcases hk with rfl | rfl | rfl | rfl
   ·exact (vF5_iff h).2 (by refine ⟨?_, ?_⟩ <;> omega)
   ·exact (vF6_iff h).2 (by refine ⟨?_, ?_⟩ <;> omega)
   ·exact (vF3_iff h).2 (by refine ⟨?_, ?_⟩ <;> omega)
   ·exact (vF8_iff h).2 trivial
  ·rcases hl k hk hn with rfl | rfl | rfl | rfl | rfl | rfl | rfl | rfl | rfl | rfl
   ·exact (zF0_iff h).2 (hs.zn 1)
   ·exact (zF1_iff h).2 (hs.zn 2)
   ·exact (zF2_iff h).2 (hs.zn 3)
   ·exact (zF4_iff h).2 (hs.zn 6)
   ·exact (zF7_iff h).2 yb
   ·exact (zF9_iff h).2 ⟨hs.zn 9, hs.zn 10, hs.zl 11, hs.zl 12⟩
   ·exact (zF10_iff h).2 ⟨hs.zn 13, hs.zn 14, hs.zn 15, hs.zn 16⟩
   ·exact (zF11_iff h).2 (hs.zl 33)
   ·exact (zF12_iff h).2 ⟨hs.zn 18, hs.zn 19, hs.zn 20, hs.zn 21, hs.zn 22, hs.zn 23, hs.zn 24, hs.zn 25, hs.zl 26, hs.zl 27, hs.zl 28, hs.zl 29, hs.zl 30, hs.zl 31, hs.zl 32⟩
   ·exact (zF13_iff h).2 ⟨hs.zn 34, hs.zn 35, hs.zn 36, hs.zn 37, hs.zn 38, hs.zn 39, hs.zn 40, hs.zn 41, hs.zn 44, yl, yd, yg, yn⟩
theorem valid7_iff (h : MsgV w cs p) (hk : p.n 0 = 7) : validP cs (p.li 33) = true ↔ (SameP (uPM7 p) p ∧ True ∧ incr (p.li 33) = true ∧ (0 ≤ p.n 1 ∧ p.n 1 ≤ 8 ∧ 0 ≤ p.n 4 ∧ p.n 4 ≤ 17 ∧ p.body.size ≤ 4096 ∧ 0 ≤ p.n 6)) := by
 have hix : usedIx cs = some [0] := by unfold usedIx; rw [numAt_eq (h.N 0 (by decide)).1, hk]; rfl
 have i1 := (h.N 1 (by decide)).2
 unfold I64 at i1
 rw [validP_iff hix]
 constructor
 ·rintro ⟨hv, hz⟩
  have a0 := (vF0_iff h).1 (hv 0 (by decide))
  have b1 := (zF1_iff h).1 (hz 1 (by decide) (by decide))
  have b2 := (zF2_iff h).1 (hz 2 (by decide) (by decide))
  have b3 := (zF3_iff h).1 (hz 3 (by decide) (by decide))
  have b4 := (zF4_iff h).1 (hz 4 (by decide) (by decide))
  have b5 := (zF5_iff h).1 (hz 5 (by decide) (by decide))
  have b6 := (zF6_iff h).1 (hz 6 (by decide) (by decide))
  have b7 := (zF7_iff h).1 (hz 7 (by decide) (by decide))
  have b8 := (zF8_iff h).1 (hz 8 (by decide) (by decide))
  have b9 := (zF9_iff h).1 (hz 9 (by decide) (by decide))
  have b10 := (zF10_iff h).1 (hz 10 (by decide) (by decide))
  have b11 := (zF11_iff h).1 (hz 11 (by decide) (by decide))
  have b12 := (zF12_iff h).1 (hz 12 (by decide) (by decide))
  have b13 := (zF13_iff h).1 (hz 13 (by decide) (by decide))
  refine ⟨⟨fun o ho => ?_, fun o ho => ?_, (ba_of_size b7).symm, (b13.2.2.2.2.2.2.2.2.2.2.2.1).symm, (b13.2.2.2.2.2.2.2.2.2.2.2.2).symm, (ba_of_size b13.2.2.2.2.2.2.2.2.2.2.1).symm, (b13.2.2.2.2.2.2.2.2.2.1).symm⟩, trivial, (by rw [b11]; rfl), ?_⟩
  ·obtain ⟨_, _, _, _⟩ := b9; obtain ⟨_, _, _, _⟩ := b10; obtain ⟨_, _, _, _, _, _, _, _, _, _, _, _, _, _, _⟩ := b12; obtain ⟨_, _, _, _, _, _, _, _, _, _, _, _, _⟩ := b13; simp only [iOffs, List.mem_cons, List.not_mem_nil, or_false] at ho
   rcases ho with rfl | rfl | rfl | rfl | rfl | rfl | rfl | rfl | rfl | rfl | rfl | rfl | rfl | rfl | rfl | rfl | rfl | rfl | rfl | rfl | rfl | rfl | rfl | rfl | rfl | rfl | rfl | rfl | rfl | rfl | rfl | rfl
   all_goals first | rfl | exact Eq.symm (by assumption)
  ·obtain ⟨_, _, _, _⟩ := b9; obtain ⟨_, _, _, _⟩ := b10; obtain ⟨_, _, _, _, _, _, _, _, _, _, _, _, _, _, _⟩ := b12; obtain ⟨_, _, _, _, _, _, _, _, _, _, _, _, _⟩ := b13; simp only [lOffs, List.mem_cons, List.not_mem_nil, or_false] at ho
   rcases ho with rfl | rfl | rfl | rfl | rfl | rfl | rfl | rfl | rfl | rfl
   all_goals first | rfl | exact Eq.symm (by assumption)
  ·refine ⟨?_, ?_, ?_, ?_, ?_, ?_⟩ <;> omega
 ·rintro ⟨hs, hc, hi, he⟩
  have yb : p.body.size = 0 := by rw [← hs.body]; rfl
  have yl : p.l = [] := hs.l.symm
  have yd : p.d.size = 0 := by rw [← hs.d]; rfl
  have yg : p.gr = false := hs.gr.symm
  have yn : p.dn = false := hs.dn.symm
  have hl : ∀ k, k < 14 → k ∉ ([0] : List Nat) → k = 1 ∨ k = 2 ∨ k = 3 ∨ k = 4 ∨ k = 5 ∨ k = 6 ∨ k = 7 ∨ k = 8 ∨ k = 9 ∨ k = 10 ∨ k = 11 ∨ k = 12 ∨ k = 13 := by decide
  refine ⟨fun k hk => ?_, fun k hk hn => ?_⟩
  ·simp only [List.mem_cons, List.not_mem_nil, or_false] at hk
   rcases hk with rfl
   ·exact (vF0_iff h).2 (by refine ⟨?_, ?_⟩ <;> omega)
  ·rcases hl k hk hn with rfl | rfl | rfl | rfl | rfl | rfl | rfl | rfl | rfl | rfl | rfl | rfl | rfl
   ·exact (zF1_iff h).2 (hs.zn 2)
   ·exact (zF2_iff h).2 (hs.zn 3)
   ·exact (zF3_iff h).2 (hs.zn 4)
   ·exact (zF4_iff h).2 (hs.zn 6)
   ·exact (zF5_iff h).2 (hs.zn 7)
   ·exact (zF6_iff h).2 (hs.zn 8)
   ·exact (zF7_iff h).2 yb
   ·exact (zF8_iff h).2 (hs.zn 17)
   ·exact (zF9_iff h).2 ⟨hs.zn 9, hs.zn 10, hs.zl 11, hs.zl 12⟩
   ·exact (zF10_iff h).2 ⟨hs.zn 13, hs.zn 14, hs.zn 15, hs.zn 16⟩
   ·exact (zF11_iff h).2 (hs.zl 33)
   ·exact (zF12_iff h).2 ⟨hs.zn 18, hs.zn 19, hs.zn 20, hs.zn 21, hs.zn 22, hs.zn 23, hs.zn 24, hs.zn 25, hs.zl 26, hs.zl 27, hs.zl 28, hs.zl 29, hs.zl 30, hs.zl 31, hs.zl 32⟩
   ·exact (zF13_iff h).2 ⟨hs.zn 34, hs.zn 35, hs.zn 36, hs.zn 37, hs.zn 38, hs.zn 39, hs.zn 40, hs.zn 41, hs.zn 44, yl, yd, yg, yn⟩
theorem valid8_iff (h : MsgV w cs p) (hk : p.n 0 = 8) : validP cs (p.li 33) = true ↔ (SameP (uPM8 p) p ∧ True ∧ incr (p.li 33) = true ∧ (0 ≤ p.n 1 ∧ p.n 1 ≤ 8 ∧ 0 ≤ p.n 4 ∧ p.n 4 ≤ 17 ∧ p.body.size ≤ 4096 ∧ 0 ≤ p.n 6)) := by
 have hix : usedIx cs = some [0, 3, 12] := by unfold usedIx; rw [numAt_eq (h.N 0 (by decide)).1, hk]; rfl
 have i1 := (h.N 1 (by decide)).2
 have i4 := (h.N 4 (by decide)).2
 unfold I64 at i1 i4
 rw [validP_iff hix]
 constructor
 ·rintro ⟨hv, hz⟩
  have a0 := (vF0_iff h).1 (hv 0 (by decide))
  have a3 := (vF3_iff h).1 (hv 3 (by decide))
  have a12 := (vF12_iff h).1 (hv 12 (by decide))
  have b1 := (zF1_iff h).1 (hz 1 (by decide) (by decide))
  have b2 := (zF2_iff h).1 (hz 2 (by decide) (by decide))
  have b4 := (zF4_iff h).1 (hz 4 (by decide) (by decide))
  have b5 := (zF5_iff h).1 (hz 5 (by decide) (by decide))
  have b6 := (zF6_iff h).1 (hz 6 (by decide) (by decide))
  have b7 := (zF7_iff h).1 (hz 7 (by decide) (by decide))
  have b8 := (zF8_iff h).1 (hz 8 (by decide) (by decide))
  have b9 := (zF9_iff h).1 (hz 9 (by decide) (by decide))
  have b10 := (zF10_iff h).1 (hz 10 (by decide) (by decide))
  have b11 := (zF11_iff h).1 (hz 11 (by decide) (by decide))
  have b13 := (zF13_iff h).1 (hz 13 (by decide) (by decide))
  refine ⟨⟨fun o ho => ?_, fun o ho => ?_, (ba_of_size b7).symm, (b13.2.2.2.2.2.2.2.2.2.2.2.1).symm, (b13.2.2.2.2.2.2.2.2.2.2.2.2).symm, (ba_of_size b13.2.2.2.2.2.2.2.2.2.2.1).symm, (b13.2.2.2.2.2.2.2.2.2.1).symm⟩, trivial, (by rw [b11]; rfl), ?_⟩
  ·obtain ⟨_, _, _, _⟩ := b9; obtain ⟨_, _, _, _⟩ := b10; obtain ⟨_, _, _, _, _, _, _, _, _, _, _, _, _⟩ := b13; simp only [iOffs, List.mem_cons, List.not_mem_nil, or_false] at ho
   rcases ho with rfl | rfl | rfl | rfl | rfl | rfl | rfl | rfl | rfl | rfl | rfl | rfl | rfl | rfl | rfl | rfl | rfl | rfl | rfl | rfl | rfl | rfl | rfl | rfl | rfl | rfl | rfl | rfl | rfl | rfl | rfl | rfl
   all_goals first | rfl | exact Eq.symm (by assumption)
  ·obtain ⟨_, _, _, _⟩ := b9; obtain ⟨_, _, _, _⟩ := b10; obtain ⟨_, _, _, _, _, _, _, _, _, _, _, _, _⟩ := b13; simp only [lOffs, List.mem_cons, List.not_mem_nil, or_false] at ho
   rcases ho with rfl | rfl | rfl | rfl | rfl | rfl | rfl | rfl | rfl | rfl
   all_goals first | rfl | exact Eq.symm (by assumption)
  ·refine ⟨?_, ?_, ?_, ?_, ?_, ?_⟩ <;> omega
 ·rintro ⟨hs, hc, hi, he⟩
  have yb : p.body.size = 0 := by rw [← hs.body]; rfl
  have yl : p.l = [] := hs.l.symm
  have yd : p.d.size = 0 := by rw [← hs.d]; rfl
  have yg : p.gr = false := hs.gr.symm
  have yn : p.dn = false := hs.dn.symm
  have hl : ∀ k, k < 14 → k ∉ ([0, 3, 12] : List Nat) → k = 1 ∨ k = 2 ∨ k = 4 ∨ k = 5 ∨ k = 6 ∨ k = 7 ∨ k = 8 ∨ k = 9 ∨ k = 10 ∨ k = 11 ∨ k = 13 := by decide
  refine ⟨fun k hk => ?_, fun k hk hn => ?_⟩
  ·simp only [List.mem_cons, List.not_mem_nil, or_false] at hk
   rcases hk with rfl | rfl | rfl
   ·exact (vF0_iff h).2 (by refine ⟨?_, ?_⟩ <;> omega)
   ·exact (vF3_iff h).2 (by refine ⟨?_, ?_⟩ <;> omega)
   ·exact (vF12_iff h).2 trivial
  ·rcases hl k hk hn with rfl | rfl | rfl | rfl | rfl | rfl | rfl | rfl | rfl | rfl | rfl
   ·exact (zF1_iff h).2 (hs.zn 2)
   ·exact (zF2_iff h).2 (hs.zn 3)
   ·exact (zF4_iff h).2 (hs.zn 6)
   ·exact (zF5_iff h).2 (hs.zn 7)
   ·exact (zF6_iff h).2 (hs.zn 8)
   ·exact (zF7_iff h).2 yb
   ·exact (zF8_iff h).2 (hs.zn 17)
   ·exact (zF9_iff h).2 ⟨hs.zn 9, hs.zn 10, hs.zl 11, hs.zl 12⟩
   ·exact (zF10_iff h).2 ⟨hs.zn 13, hs.zn 14, hs.zn 15, hs.zn 16⟩
   ·exact (zF11_iff h).2 (hs.zl 33)
   ·exact (zF13_iff h).2 ⟨hs.zn 34, hs.zn 35, hs.zn 36, hs.zn 37, hs.zn 38, hs.zn 39, hs.zn 40, hs.zn 41, hs.zn 44, yl, yd, yg, yn⟩
theorem valid9_iff (h : MsgV w cs p) (hk : p.n 0 = 9) : validP cs (p.li 33) = true ↔ (SameP (uPM9 p) p ∧ (1 ≤ p.n 2 ∧ p.n 2 ≤ 8 ∧ 1 ≤ p.n 3) ∧ incr (p.li 33) = true ∧ (0 ≤ p.n 1 ∧ p.n 1 ≤ 8 ∧ 0 ≤ p.n 4 ∧ p.n 4 ≤ 17 ∧ p.body.size ≤ 4096 ∧ 0 ≤ p.n 6)) := by
 have hix : usedIx cs = some [0, 1, 2, 8] := by unfold usedIx; rw [numAt_eq (h.N 0 (by decide)).1, hk]; rfl
 have i1 := (h.N 1 (by decide)).2
 have i2 := (h.N 2 (by decide)).2
 have i3 := (h.N 3 (by decide)).2
 unfold I64 at i1 i2 i3
 rw [validP_iff hix]
 constructor
 ·rintro ⟨hv, hz⟩
  have a0 := (vF0_iff h).1 (hv 0 (by decide))
  have a1 := (vF1_iff h).1 (hv 1 (by decide))
  have a2 := (vF2_iff h).1 (hv 2 (by decide))
  have a8 := (vF8_iff h).1 (hv 8 (by decide))
  have b3 := (zF3_iff h).1 (hz 3 (by decide) (by decide))
  have b4 := (zF4_iff h).1 (hz 4 (by decide) (by decide))
  have b5 := (zF5_iff h).1 (hz 5 (by decide) (by decide))
  have b6 := (zF6_iff h).1 (hz 6 (by decide) (by decide))
  have b7 := (zF7_iff h).1 (hz 7 (by decide) (by decide))
  have b9 := (zF9_iff h).1 (hz 9 (by decide) (by decide))
  have b10 := (zF10_iff h).1 (hz 10 (by decide) (by decide))
  have b11 := (zF11_iff h).1 (hz 11 (by decide) (by decide))
  have b12 := (zF12_iff h).1 (hz 12 (by decide) (by decide))
  have b13 := (zF13_iff h).1 (hz 13 (by decide) (by decide))
  refine ⟨⟨fun o ho => ?_, fun o ho => ?_, (ba_of_size b7).symm, (b13.2.2.2.2.2.2.2.2.2.2.2.1).symm, (b13.2.2.2.2.2.2.2.2.2.2.2.2).symm, (ba_of_size b13.2.2.2.2.2.2.2.2.2.2.1).symm, (b13.2.2.2.2.2.2.2.2.2.1).symm⟩, (by refine ⟨?_, ?_, ?_⟩ <;> omega), (by rw [b11]; rfl), ?_⟩
  ·obtain ⟨_, _, _, _⟩ := b9; obtain ⟨_, _, _, _⟩ := b10; obtain ⟨_, _, _, _, _, _, _, _, _, _, _, _, _, _, _⟩ := b12; obtain ⟨_, _, _, _, _, _, _, _, _, _, _, _, _⟩ := b13; simp only [iOffs, List.mem_cons, List.not_mem_nil, or_false] at ho
   rcases ho with rfl | rfl | rfl | rfl | rfl | rfl | rfl | rfl | rfl | rfl | rfl | rfl | rfl | rfl | rfl | rfl | rfl | rfl | rfl | rfl | rfl | rfl | rfl | rfl | rfl | rfl | rfl | rfl | rfl | rfl | rfl | rfl
   all_goals first | rfl | exact Eq.symm (by assumption)
  ·obtain ⟨_, _, _, _⟩ := b9; obtain ⟨_, _, _, _⟩ := b10; obtain ⟨_, _, _, _, _, _, _, _, _, _, _, _, _, _, _⟩ := b12; obtain ⟨_, _, _, _, _, _, _, _, _, _, _, _, _⟩ := b13; simp only [lOffs, List.mem_cons, List.not_mem_nil, or_false] at ho
   rcases ho with rfl | rfl | rfl | rfl | rfl | rfl | rfl | rfl | rfl | rfl
   all_goals first | rfl | exact Eq.symm (by assumption)
  ·refine ⟨?_, ?_, ?_, ?_, ?_, ?_⟩ <;> omega
 ·rintro ⟨hs, hc, hi, he⟩
  have yb : p.body.size = 0 := by rw [← hs.body]; rfl
  have yl : p.l = [] := hs.l.symm
  have yd : p.d.size = 0 := by rw [← hs.d]; rfl
  have yg : p.gr = false := hs.gr.symm
  have yn : p.dn = false := hs.dn.symm
  have hl : ∀ k, k < 14 → k ∉ ([0, 1, 2, 8] : List Nat) → k = 3 ∨ k = 4 ∨ k = 5 ∨ k = 6 ∨ k = 7 ∨ k = 9 ∨ k = 10 ∨ k = 11 ∨ k = 12 ∨ k = 13 := by decide
  refine ⟨fun k hk => ?_, fun k hk hn => ?_⟩
  ·simp only [List.mem_cons, List.not_mem_nil, or_false] at hk
   rcases hk with rfl | rfl | rfl | rfl
   ·exact (vF0_iff h).2 (by refine ⟨?_, ?_⟩ <;> omega)
   ·exact (vF1_iff h).2 (by refine ⟨?_, ?_⟩ <;> omega)
   ·exact (vF2_iff h).2 (by refine ⟨?_, ?_⟩ <;> omega)
   ·exact (vF8_iff h).2 trivial
  ·rcases hl k hk hn with rfl | rfl | rfl | rfl | rfl | rfl | rfl | rfl | rfl | rfl
   ·exact (zF3_iff h).2 (hs.zn 4)
   ·exact (zF4_iff h).2 (hs.zn 6)
   ·exact (zF5_iff h).2 (hs.zn 7)
   ·exact (zF6_iff h).2 (hs.zn 8)
   ·exact (zF7_iff h).2 yb
   ·exact (zF9_iff h).2 ⟨hs.zn 9, hs.zn 10, hs.zl 11, hs.zl 12⟩
   ·exact (zF10_iff h).2 ⟨hs.zn 13, hs.zn 14, hs.zn 15, hs.zn 16⟩
   ·exact (zF11_iff h).2 (hs.zl 33)
   ·exact (zF12_iff h).2 ⟨hs.zn 18, hs.zn 19, hs.zn 20, hs.zn 21, hs.zn 22, hs.zn 23, hs.zn 24, hs.zn 25, hs.zl 26, hs.zl 27, hs.zl 28, hs.zl 29, hs.zl 30, hs.zl 31, hs.zl 32⟩
   ·exact (zF13_iff h).2 ⟨hs.zn 34, hs.zn 35, hs.zn 36, hs.zn 37, hs.zn 38, hs.zn 39, hs.zn 40, hs.zn 41, hs.zn 44, yl, yd, yg, yn⟩
theorem valid10_iff (h : MsgV w cs p) (hk : p.n 0 = 10) : validP cs (p.li 33) = true ↔ (SameP (uPM10 p) p ∧ (1 ≤ p.n 2 ∧ p.n 2 ≤ 8 ∧ 1 ≤ p.n 3) ∧ incr (p.li 33) = true ∧ (0 ≤ p.n 1 ∧ p.n 1 ≤ 8 ∧ 0 ≤ p.n 4 ∧ p.n 4 ≤ 17 ∧ p.body.size ≤ 4096 ∧ 0 ≤ p.n 6)) := by
 have hix : usedIx cs = some [0, 1, 2, 3, 8] := by unfold usedIx; rw [numAt_eq (h.N 0 (by decide)).1, hk]; rfl
 have i1 := (h.N 1 (by decide)).2
 have i2 := (h.N 2 (by decide)).2
 have i3 := (h.N 3 (by decide)).2
 have i4 := (h.N 4 (by decide)).2
 unfold I64 at i1 i2 i3 i4
 rw [validP_iff hix]
 constructor
 ·rintro ⟨hv, hz⟩
  have a0 := (vF0_iff h).1 (hv 0 (by decide))
  have a1 := (vF1_iff h).1 (hv 1 (by decide))
  have a2 := (vF2_iff h).1 (hv 2 (by decide))
  have a3 := (vF3_iff h).1 (hv 3 (by decide))
  have a8 := (vF8_iff h).1 (hv 8 (by decide))
  have b4 := (zF4_iff h).1 (hz 4 (by decide) (by decide))
  have b5 := (zF5_iff h).1 (hz 5 (by decide) (by decide))
  have b6 := (zF6_iff h).1 (hz 6 (by decide) (by decide))
  have b7 := (zF7_iff h).1 (hz 7 (by decide) (by decide))
  have b9 := (zF9_iff h).1 (hz 9 (by decide) (by decide))
  have b10 := (zF10_iff h).1 (hz 10 (by decide) (by decide))
  have b11 := (zF11_iff h).1 (hz 11 (by decide) (by decide))
  have b12 := (zF12_iff h).1 (hz 12 (by decide) (by decide))
  have b13 := (zF13_iff h).1 (hz 13 (by decide) (by decide))
  refine ⟨⟨fun o ho => ?_, fun o ho => ?_, (ba_of_size b7).symm, (b13.2.2.2.2.2.2.2.2.2.2.2.1).symm, (b13.2.2.2.2.2.2.2.2.2.2.2.2).symm, (ba_of_size b13.2.2.2.2.2.2.2.2.2.2.1).symm, (b13.2.2.2.2.2.2.2.2.2.1).symm⟩, (by refine ⟨?_, ?_, ?_⟩ <;> omega), (by rw [b11]; rfl), ?_⟩
  ·obtain ⟨_, _, _, _⟩ := b9; obtain ⟨_, _, _, _⟩ := b10; obtain ⟨_, _, _, _, _, _, _, _, _, _, _, _, _, _, _⟩ := b12; obtain ⟨_, _, _, _, _, _, _, _, _, _, _, _, _⟩ := b13; simp only [iOffs, List.mem_cons, List.not_mem_nil, or_false] at ho
   rcases ho with rfl | rfl | rfl | rfl | rfl | rfl | rfl | rfl | rfl | rfl | rfl | rfl | rfl | rfl | rfl | rfl | rfl | rfl | rfl | rfl | rfl | rfl | rfl | rfl | rfl | rfl | rfl | rfl | rfl | rfl | rfl | rfl
   all_goals first | rfl | exact Eq.symm (by assumption)
  ·obtain ⟨_, _, _, _⟩ := b9; obtain ⟨_, _, _, _⟩ := b10; obtain ⟨_, _, _, _, _, _, _, _, _, _, _, _, _, _, _⟩ := b12; obtain ⟨_, _, _, _, _, _, _, _, _, _, _, _, _⟩ := b13; simp only [lOffs, List.mem_cons, List.not_mem_nil, or_false] at ho
   rcases ho with rfl | rfl | rfl | rfl | rfl | rfl | rfl | rfl | rfl | rfl
   all_goals first | rfl | exact Eq.symm (by assumption)
  ·refine ⟨?_, ?_, ?_, ?_, ?_, ?_⟩ <;> omega
 ·rintro ⟨hs, hc, hi, he⟩
  have yb : p.body.size = 0 := by rw [← hs.body]; rfl
  have yl : p.l = [] := hs.l.symm
  have yd : p.d.size = 0 := by rw [← hs.d]; rfl
  have yg : p.gr = false := hs.gr.symm
  have yn : p.dn = false := hs.dn.symm
  have hl : ∀ k, k < 14 → k ∉ ([0, 1, 2, 3, 8] : List Nat) → k = 4 ∨ k = 5 ∨ k = 6 ∨ k = 7 ∨ k = 9 ∨ k = 10 ∨ k = 11 ∨ k = 12 ∨ k = 13 := by decide
  refine ⟨fun k hk => ?_, fun k hk hn => ?_⟩
  ·simp only [List.mem_cons, List.not_mem_nil, or_false] at hk
   rcases hk with rfl | rfl | rfl | rfl | rfl
   ·exact (vF0_iff h).2 (by refine ⟨?_, ?_⟩ <;> omega)
   ·exact (vF1_iff h).2 (by refine ⟨?_, ?_⟩ <;> omega)
   ·exact (vF2_iff h).2 (by refine ⟨?_, ?_⟩ <;> omega)
   ·exact (vF3_iff h).2 (by refine ⟨?_, ?_⟩ <;> omega)
   ·exact (vF8_iff h).2 trivial
  ·rcases hl k hk hn with rfl | rfl | rfl | rfl | rfl | rfl | rfl | rfl | rfl
   ·exact (zF4_iff h).2 (hs.zn 6)
   ·exact (zF5_iff h).2 (hs.zn 7)
   ·exact (zF6_iff h).2 (hs.zn 8)
   ·exact (zF7_iff h).2 yb
   ·exact (zF9_iff h).2 ⟨hs.zn 9, hs.zn 10, hs.zl 11, hs.zl 12⟩
   ·exact (zF10_iff h).2 ⟨hs.zn 13, hs.zn 14, hs.zn 15, hs.zn 16⟩
   ·exact (zF11_iff h).2 (hs.zl 33)
   ·exact (zF12_iff h).2 ⟨hs.zn 18, hs.zn 19, hs.zn 20, hs.zn 21, hs.zn 22, hs.zn 23, hs.zn 24, hs.zn 25, hs.zl 26, hs.zl 27, hs.zl 28, hs.zl 29, hs.zl 30, hs.zl 31, hs.zl 32⟩
   ·exact (zF13_iff h).2 ⟨hs.zn 34, hs.zn 35, hs.zn 36, hs.zn 37, hs.zn 38, hs.zn 39, hs.zn 40, hs.zn 41, hs.zn 44, yl, yd, yg, yn⟩
theorem valid11_iff (h : MsgV w cs p) (hk : p.n 0 = 11) : validP cs (p.li 33) = true ↔ (SameP (uPM11 p) p ∧ True ∧ incr (p.li 33) = true ∧ (0 ≤ p.n 1 ∧ p.n 1 ≤ 8 ∧ 0 ≤ p.n 4 ∧ p.n 4 ≤ 17 ∧ p.body.size ≤ 4096 ∧ 0 ≤ p.n 6)) := by
 have hix : usedIx cs = some [11] := by unfold usedIx; rw [numAt_eq (h.N 0 (by decide)).1, hk]; rfl
 rw [validP_iff hix]
 constructor
 ·rintro ⟨hv, hz⟩
  have a11 := (vF11_iff h).1 (hv 11 (by decide))
  have b0 := (zF0_iff h).1 (hz 0 (by decide) (by decide))
  have b1 := (zF1_iff h).1 (hz 1 (by decide) (by decide))
  have b2 := (zF2_iff h).1 (hz 2 (by decide) (by decide))
  have b3 := (zF3_iff h).1 (hz 3 (by decide) (by decide))
  have b4 := (zF4_iff h).1 (hz 4 (by decide) (by decide))
  have b5 := (zF5_iff h).1 (hz 5 (by decide) (by decide))
  have b6 := (zF6_iff h).1 (hz 6 (by decide) (by decide))
  have b7 := (zF7_iff h).1 (hz 7 (by decide) (by decide))
  have b8 := (zF8_iff h).1 (hz 8 (by decide) (by decide))
  have b9 := (zF9_iff h).1 (hz 9 (by decide) (by decide))
  have b10 := (zF10_iff h).1 (hz 10 (by decide) (by decide))
  have b12 := (zF12_iff h).1 (hz 12 (by decide) (by decide))
  have b13 := (zF13_iff h).1 (hz 13 (by decide) (by decide))
  refine ⟨⟨fun o ho => ?_, fun o ho => ?_, (ba_of_size b7).symm, (b13.2.2.2.2.2.2.2.2.2.2.2.1).symm, (b13.2.2.2.2.2.2.2.2.2.2.2.2).symm, (ba_of_size b13.2.2.2.2.2.2.2.2.2.2.1).symm, (b13.2.2.2.2.2.2.2.2.2.1).symm⟩, trivial, a11, ?_⟩
  ·obtain ⟨_, _, _, _⟩ := b9; obtain ⟨_, _, _, _⟩ := b10; obtain ⟨_, _, _, _, _, _, _, _, _, _, _, _, _, _, _⟩ := b12; obtain ⟨_, _, _, _, _, _, _, _, _, _, _, _, _⟩ := b13; simp only [iOffs, List.mem_cons, List.not_mem_nil, or_false] at ho
   rcases ho with rfl | rfl | rfl | rfl | rfl | rfl | rfl | rfl | rfl | rfl | rfl | rfl | rfl | rfl | rfl | rfl | rfl | rfl | rfl | rfl | rfl | rfl | rfl | rfl | rfl | rfl | rfl | rfl | rfl | rfl | rfl | rfl
   all_goals first | rfl | exact Eq.symm (by assumption)
  ·obtain ⟨_, _, _, _⟩ := b9; obtain ⟨_, _, _, _⟩ := b10; obtain ⟨_, _, _, _, _, _, _, _, _, _, _, _, _, _, _⟩ := b12; obtain ⟨_, _, _, _, _, _, _, _, _, _, _, _, _⟩ := b13; simp only [lOffs, List.mem_cons, List.not_mem_nil, or_false] at ho
   rcases ho with rfl | rfl | rfl | rfl | rfl | rfl | rfl | rfl | rfl | rfl
   all_goals first | rfl | exact Eq.symm (by assumption)
  ·refine ⟨?_, ?_, ?_, ?_, ?_, ?_⟩ <;> omega
 ·rintro ⟨hs, hc, hi, he⟩
  have yb : p.body.size = 0 := by rw [← hs.body]; rfl
  have yl : p.l = [] := hs.l.symm
  have yd : p.d.size = 0 := by rw [← hs.d]; rfl
  have yg : p.gr = false := hs.gr.symm
  have yn : p.dn = false := hs.dn.symm
  have hl : ∀ k, k < 14 → k ∉ ([11] : List Nat) → k = 0 ∨ k = 1 ∨ k = 2 ∨ k = 3 ∨ k = 4 ∨ k = 5 ∨ k = 6 ∨ k = 7 ∨ k = 8 ∨ k = 9 ∨ k = 10 ∨ k = 12 ∨ k = 13 := by decide
  refine ⟨fun k hk => ?_, fun k hk hn => ?_⟩
  ·simp only [List.mem_cons, List.not_mem_nil, or_false] at hk
   rcases hk with rfl
   ·exact (vF11_iff h).2 hi
  ·rcases hl k hk hn with rfl | rfl | rfl | rfl | rfl | rfl | rfl | rfl | rfl | rfl | rfl | rfl | rfl
   ·exact (zF0_iff h).2 (hs.zn 1)
   ·exact (zF1_iff h).2 (hs.zn 2)
   ·exact (zF2_iff h).2 (hs.zn 3)
   ·exact (zF3_iff h).2 (hs.zn 4)
   ·exact (zF4_iff h).2 (hs.zn 6)
   ·exact (zF5_iff h).2 (hs.zn 7)
   ·exact (zF6_iff h).2 (hs.zn 8)
   ·exact (zF7_iff h).2 yb
   ·exact (zF8_iff h).2 (hs.zn 17)
   ·exact (zF9_iff h).2 ⟨hs.zn 9, hs.zn 10, hs.zl 11, hs.zl 12⟩
   ·exact (zF10_iff h).2 ⟨hs.zn 13, hs.zn 14, hs.zn 15, hs.zn 16⟩
   ·exact (zF12_iff h).2 ⟨hs.zn 18, hs.zn 19, hs.zn 20, hs.zn 21, hs.zn 22, hs.zn 23, hs.zn 24, hs.zn 25, hs.zl 26, hs.zl 27, hs.zl 28, hs.zl 29, hs.zl 30, hs.zl 31, hs.zl 32⟩
   ·exact (zF13_iff h).2 ⟨hs.zn 34, hs.zn 35, hs.zn 36, hs.zn 37, hs.zn 38, hs.zn 39, hs.zn 40, hs.zn 41, hs.zn 44, yl, yd, yg, yn⟩
end
end Go.Proofs.Ytpbgelhjbfckcaa
