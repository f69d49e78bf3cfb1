/- The plain operations of the region of fields' table: what each leaves in its slot. -/
import Derived.Test.YtpbgelhjbfckcaaV03
namespace Go.Proofs.Ytpbgelhjbfckcaa
set_option maxRecDepth 100000
set_option linter.unusedVariables false
set_option linter.unusedSimpArgs false
open Go.ChangeMaps Go.ChangeShapes Go.WideShapes Go.ChangeAt Go.RowKit
def seqNth : Nat → Code → Code
 | 0, .seq a _ => a
 | n + 1, .seq _ b => seqNth n b
 | _, c => c
def codeOps : Code → Array Oper
 | .region _ ops _ => ops
 | _ => #[]
/-- The operations of the region. -/
noncomputable def ops9 : Array Oper := match Try.f41.body with | some c => codeOps (seqNth 9 c) | none => #[]
def sl (a : Act) (k : Nat) : Value := a.tmps.getD k undef
theorem eval_sl (a : Act) (k : Nat) : a.eval (.tmp k) = sl a k := rfl
/-- What lies in memory when the table is begun. -/
structure TP where
 b : Nat
 bm : Nat
 b5 : Nat
 b6 : Nat
 b10 : Nat
 c5 : List Value
 c6 : List Value
 c10 : List Value
def KeepA (p : TP) (a : Act) : Prop := sl a 1 = at0 p.bm ∧ sl a 3 = .pointer (some ⟨p.b, 4, none⟩) ∧ sl a 4 = .pointer (some ⟨p.b, 18, none⟩) ∧ sl a 5 = at0 p.b5 ∧ sl a 6 = at0 p.b6 ∧ sl a 10 = at0 p.b10
def SS (p : TP) (w : World) : Prop := w.cell? ⟨p.bm, 0, none⟩ = some (at0 p.b) ∧ ((∀ j, w.cell? ⟨p.b5, j, none⟩ = p.c5[j]?) ∧ p.c5.length = 4) ∧ ((∀ j, w.cell? ⟨p.b6, j, none⟩ = p.c6[j]?) ∧ p.c6.length = 4) ∧ ((∀ j, w.cell? ⟨p.b10, j, none⟩ = p.c10[j]?) ∧ p.c10.length = 4)
section
variable {o : Oper} {a : Act} {w : World}
theorem run_ld {bm b : Nat} (ho : o.op = .load 72 (.tmp 1)) (h1 : sl a 1 = at0 bm) (h2 : w.cell? ⟨bm, 0, none⟩ = some (at0 b)) : (execOp a.eval o).run Try.prog w = .ok (.value (at0 b)) w := by
 unfold sl at h1
 unfold execOp
 simp only [ho, Act.eval, h1]
 go_simp
theorem run_nc {x : Nat} {q : Addr} (ho : o.op = .nilCheck (.tmp x)) (h1 : sl a x = .pointer (some q)) : (execOp a.eval o).run Try.prog w = .ok (.value (.pointer (some q))) w := by
 unfold sl at h1
 unfold execOp
 simp only [ho, Act.eval, h1]
 go_simp
theorem run_mv {x : Nat} {v : Value} (ho : o.op = .move (.tmp x)) (h1 : sl a x = v) : (execOp a.eval o).run Try.prog w = .ok (.value v) w := by
 unfold sl at h1
 unfold execOp
 simp only [ho, Act.eval, h1]
 go_simp
theorem run_mf {bm : Nat} {f : FuncId} (ho : o.op = .makeFunc (.func f) #[] #[.tmp 1]) (h1 : sl a 1 = at0 bm) : (execOp a.eval o).run Try.prog w = .ok (.value (.func (.func f) #[] #[at0 bm])) w := by
 unfold sl at h1
 unfold execOp
 simp only [ho, Act.eval]
 go_simp
theorem run_bd {parts : Array (Nat × Operand)} (ho : o.op = .build 101 parts) (vs : List (Nat × Value)) (he : (parts.map fun (i, x) => (i, a.eval x)).toList = vs) (cells : Array Value) (hc : Try.prog.built 101 vs = some cells) : (execOp a.eval o).run Try.prog w = .ok (.value (.agg cells)) w := by
 unfold execOp
 subst he
 simp only [ho, Sem.run_bind, run_build w _ _ cells hc, Result.andThen_ok, Sem.run_pure]
theorem run_lf {x g : Nat} {cs : List Value} (ho : o.op = .load 101 (.tmp x)) (hg : o.guard = none) (h1 : sl a x = at0 g) (h2 : ∀ j, w.cell? ⟨g, j, none⟩ = cs[j]?) (h3 : cs.length = 4) : (execOp a.eval o).run Try.prog w = .ok (.value (.agg cs.toArray)) w := by
 have hw : Region.wanted o (yielded #[] a.tmps) = true := by simp [Region.wanted, hg]
 have y := yieldsIf_load (SS := fun W => ∀ j, W.cell? ⟨g, j, none⟩ = cs[j]?) (P := Try.prog) hw 101 (.tmp x) ho g 0 4 101 cs cs _ (fun w hw => hw) (by rw [List.drop_zero, List.take_of_length_le (Nat.le_of_eq h3)]) h1 Try.underlying101 rfl (by rw [h3]; exact size_field)
 rcases y with ⟨_, h⟩ | ⟨h, _⟩
 ·exact h w h2
 ·rw [hw] at h; cases h
theorem run_fa34_0 {x b q : Nat} (ho : o.op = .fieldAddr 34 (.tmp x) 0) (h1 : sl a x = .pointer (some ⟨b, q, none⟩)) : (execOp a.eval o).run Try.prog w = .ok (.value (.pointer (some ⟨b, q + 0, none⟩))) w := by
 unfold sl at h1
 unfold execOp
 simp only [ho, Act.eval, h1]
 go_simp
theorem run_fa34_1 {x b q : Nat} (ho : o.op = .fieldAddr 34 (.tmp x) 1) (h1 : sl a x = .pointer (some ⟨b, q, none⟩)) : (execOp a.eval o).run Try.prog w = .ok (.value (.pointer (some ⟨b, q + 1, none⟩))) w := by
 unfold sl at h1
 unfold execOp
 simp only [ho, Act.eval, h1]
 go_simp
theorem run_fa34_2 {x b q : Nat} (ho : o.op = .fieldAddr 34 (.tmp x) 2) (h1 : sl a x = .pointer (some ⟨b, q, none⟩)) : (execOp a.eval o).run Try.prog w = .ok (.value (.pointer (some ⟨b, q + 2, none⟩))) w := by
 unfold sl at h1
 unfold execOp
 simp only [ho, Act.eval, h1]
 go_simp
theorem run_fa36_0 {x b q : Nat} (ho : o.op = .fieldAddr 36 (.tmp x) 0) (h1 : sl a x = .pointer (some ⟨b, q, none⟩)) : (execOp a.eval o).run Try.prog w = .ok (.value (.pointer (some ⟨b, q + 0, none⟩))) w := by
 unfold sl at h1
 unfold execOp
 simp only [ho, Act.eval, h1]
 go_simp
theorem run_fa36_1 {x b q : Nat} (ho : o.op = .fieldAddr 36 (.tmp x) 1) (h1 : sl a x = .pointer (some ⟨b, q, none⟩)) : (execOp a.eval o).run Try.prog w = .ok (.value (.pointer (some ⟨b, q + 1, none⟩))) w := by
 unfold sl at h1
 unfold execOp
 simp only [ho, Act.eval, h1]
 go_simp
theorem run_fa36_2 {x b q : Nat} (ho : o.op = .fieldAddr 36 (.tmp x) 2) (h1 : sl a x = .pointer (some ⟨b, q, none⟩)) : (execOp a.eval o).run Try.prog w = .ok (.value (.pointer (some ⟨b, q + 2, none⟩))) w := by
 unfold sl at h1
 unfold execOp
 simp only [ho, Act.eval, h1]
 go_simp
theorem run_fa36_3 {x b q : Nat} (ho : o.op = .fieldAddr 36 (.tmp x) 3) (h1 : sl a x = .pointer (some ⟨b, q, none⟩)) : (execOp a.eval o).run Try.prog w = .ok (.value (.pointer (some ⟨b, q + 3, none⟩))) w := by
 unfold sl at h1
 unfold execOp
 simp only [ho, Act.eval, h1]
 go_simp
theorem run_fa36_4 {x b q : Nat} (ho : o.op = .fieldAddr 36 (.tmp x) 4) (h1 : sl a x = .pointer (some ⟨b, q, none⟩)) : (execOp a.eval o).run Try.prog w = .ok (.value (.pointer (some ⟨b, q + 4, none⟩))) w := by
 unfold sl at h1
 unfold execOp
 simp only [ho, Act.eval, h1]
 go_simp
theorem run_fa36_5 {x b q : Nat} (ho : o.op = .fieldAddr 36 (.tmp x) 5) (h1 : sl a x = .pointer (some ⟨b, q, none⟩)) : (execOp a.eval o).run Try.prog w = .ok (.value (.pointer (some ⟨b, q + 5, none⟩))) w := by
 unfold sl at h1
 unfold execOp
 simp only [ho, Act.eval, h1]
 go_simp
theorem run_fa36_6 {x b q : Nat} (ho : o.op = .fieldAddr 36 (.tmp x) 6) (h1 : sl a x = .pointer (some ⟨b, q, none⟩)) : (execOp a.eval o).run Try.prog w = .ok (.value (.pointer (some ⟨b, q + 6, none⟩))) w := by
 unfold sl at h1
 unfold execOp
 simp only [ho, Act.eval, h1]
 go_simp
theorem run_fa36_7 {x b q : Nat} (ho : o.op = .fieldAddr 36 (.tmp x) 7) (h1 : sl a x = .pointer (some ⟨b, q, none⟩)) : (execOp a.eval o).run Try.prog w = .ok (.value (.pointer (some ⟨b, q + 7, none⟩))) w := by
 unfold sl at h1
 unfold execOp
 simp only [ho, Act.eval, h1]
 go_simp
theorem run_fa36_8 {x b q : Nat} (ho : o.op = .fieldAddr 36 (.tmp x) 8) (h1 : sl a x = .pointer (some ⟨b, q, none⟩)) : (execOp a.eval o).run Try.prog w = .ok (.value (.pointer (some ⟨b, q + 8, none⟩))) w := by
 unfold sl at h1
 unfold execOp
 simp only [ho, Act.eval, h1]
 go_simp
theorem run_fa36_9 {x b q : Nat} (ho : o.op = .fieldAddr 36 (.tmp x) 9) (h1 : sl a x = .pointer (some ⟨b, q, none⟩)) : (execOp a.eval o).run Try.prog w = .ok (.value (.pointer (some ⟨b, q + 11, none⟩))) w := by
 unfold sl at h1
 unfold execOp
 simp only [ho, Act.eval, h1]
 go_simp
theorem run_fa36_10 {x b q : Nat} (ho : o.op = .fieldAddr 36 (.tmp x) 10) (h1 : sl a x = .pointer (some ⟨b, q, none⟩)) : (execOp a.eval o).run Try.prog w = .ok (.value (.pointer (some ⟨b, q + 14, none⟩))) w := by
 unfold sl at h1
 unfold execOp
 simp only [ho, Act.eval, h1]
 go_simp
theorem run_fa41_1 {x b q : Nat} (ho : o.op = .fieldAddr 41 (.tmp x) 1) (h1 : sl a x = .pointer (some ⟨b, q, none⟩)) : (execOp a.eval o).run Try.prog w = .ok (.value (.pointer (some ⟨b, q + 1, none⟩))) w := by
 unfold sl at h1
 unfold execOp
 simp only [ho, Act.eval, h1]
 go_simp
theorem run_fa41_2 {x b q : Nat} (ho : o.op = .fieldAddr 41 (.tmp x) 2) (h1 : sl a x = .pointer (some ⟨b, q, none⟩)) : (execOp a.eval o).run Try.prog w = .ok (.value (.pointer (some ⟨b, q + 2, none⟩))) w := by
 unfold sl at h1
 unfold execOp
 simp only [ho, Act.eval, h1]
 go_simp
theorem run_fa41_3 {x b q : Nat} (ho : o.op = .fieldAddr 41 (.tmp x) 3) (h1 : sl a x = .pointer (some ⟨b, q, none⟩)) : (execOp a.eval o).run Try.prog w = .ok (.value (.pointer (some ⟨b, q + 3, none⟩))) w := by
 unfold sl at h1
 unfold execOp
 simp only [ho, Act.eval, h1]
 go_simp
theorem run_fa41_6 {x b q : Nat} (ho : o.op = .fieldAddr 41 (.tmp x) 6) (h1 : sl a x = .pointer (some ⟨b, q, none⟩)) : (execOp a.eval o).run Try.prog w = .ok (.value (.pointer (some ⟨b, q + 6, none⟩))) w := by
 unfold sl at h1
 unfold execOp
 simp only [ho, Act.eval, h1]
 go_simp
theorem run_fa41_7 {x b q : Nat} (ho : o.op = .fieldAddr 41 (.tmp x) 7) (h1 : sl a x = .pointer (some ⟨b, q, none⟩)) : (execOp a.eval o).run Try.prog w = .ok (.value (.pointer (some ⟨b, q + 7, none⟩))) w := by
 unfold sl at h1
 unfold execOp
 simp only [ho, Act.eval, h1]
 go_simp
theorem run_fa41_8 {x b q : Nat} (ho : o.op = .fieldAddr 41 (.tmp x) 8) (h1 : sl a x = .pointer (some ⟨b, q, none⟩)) : (execOp a.eval o).run Try.prog w = .ok (.value (.pointer (some ⟨b, q + 8, none⟩))) w := by
 unfold sl at h1
 unfold execOp
 simp only [ho, Act.eval, h1]
 go_simp
end
def pI (k : Nat) : Nat := [1, 2, 3, 6, 7, 8, 11, 12, 13, 16, 19, 20, 21, 24, 25, 26, 29, 30, 31, 34, 35, 36, 37, 38, 40, 41, 42, 43, 45, 47, 49, 51, 52, 53, 54, 55, 56, 57, 58, 59, 60, 61, 62, 63, 64, 65, 66, 67, 68, 69, 70, 71, 72, 73, 74, 76, 77, 78, 79, 80, 81, 82, 83, 84, 85, 86, 87, 88, 89, 90, 91, 92, 93, 94, 95, 96, 97, 98, 99, 100, 101, 102, 106, 107, 108, 109].getD k 999
def pD (k : Nat) : Nat := [69, 70, 71, 73, 74, 75, 77, 78, 79, 81, 83, 84, 85, 87, 88, 89, 91, 92, 93, 95, 96, 97, 98, 99, 100, 101, 102, 103, 104, 105, 106, 107, 108, 109, 110, 111, 112, 113, 114, 115, 116, 117, 118, 119, 120, 121, 122, 123, 124, 125, 126, 127, 128, 129, 130, 132, 133, 134, 135, 136, 137, 138, 139, 140, 141, 142, 143, 144, 145, 146, 147, 148, 149, 150, 151, 152, 153, 154, 155, 156, 157, 158, 161, 162, 163, 164].getD k 999
def pDep (k : Nat) : List Nat := [[], [0], [1], [], [3], [4], [], [6], [7], [], [], [10], [11], [], [13], [14], [], [16], [17], [], [], [], [], [19, 20, 21, 22], [], [], [], [24, 25, 26], [], [], [], [], [31], [32], [], [34], [35], [], [37], [38], [], [40], [41], [], [43], [44], [], [46], [47], [], [49], [50], [], [52], [53], [], [55], [56], [57], [], [59], [60], [61], [], [63], [64], [65], [], [67], [68], [69], [], [71], [72], [73], [], [75], [76], [77], [], [79], [80], [], [], [], [82, 83, 84]].getD k []
def pV (p : TP) (k : Nat) : Value := ([at0 p.b, .pointer (some ⟨p.b, 0, none⟩), .pointer (some ⟨p.b, 1, none⟩), at0 p.b, .pointer (some ⟨p.b, 0, none⟩), .pointer (some ⟨p.b, 2, none⟩), at0 p.b, .pointer (some ⟨p.b, 0, none⟩), .pointer (some ⟨p.b, 3, none⟩), .pointer (some ⟨p.b, 4, none⟩), at0 p.b, .pointer (some ⟨p.b, 0, none⟩), .pointer (some ⟨p.b, 6, none⟩), at0 p.b, .pointer (some ⟨p.b, 0, none⟩), .pointer (some ⟨p.b, 7, none⟩), at0 p.b, .pointer (some ⟨p.b, 0, none⟩), .pointer (some ⟨p.b, 8, none⟩), .func (.func 61) #[] #[at0 p.bm], .func (.func 63) #[] #[at0 p.bm], .func (.func 65) #[] #[at0 p.bm], .func (.func 66) #[] #[at0 p.bm], .agg (fv 61 63 65 66 [at0 p.bm] [at0 p.bm] [at0 p.bm] [at0 p.bm]).toArray, .func (.func 67) #[] #[at0 p.bm], .func (.func 68) #[] #[at0 p.bm], .func (.func 69) #[] #[at0 p.bm], .agg (fv 67 68 69 70 [at0 p.bm] [at0 p.bm] [at0 p.bm] []).toArray, .agg p.c5.toArray, .agg p.c6.toArray, .agg p.c10.toArray, .pointer (some ⟨p.b, 18, none⟩), .pointer (some ⟨p.b, 18, none⟩), .pointer (some ⟨p.b, 18, none⟩), .pointer (some ⟨p.b, 18, none⟩), .pointer (some ⟨p.b, 18, none⟩), .pointer (some ⟨p.b, 19, none⟩), .pointer (some ⟨p.b, 18, none⟩), .pointer (some ⟨p.b, 18, none⟩), .pointer (some ⟨p.b, 20, none⟩), .pointer (some ⟨p.b, 18, none⟩), .pointer (some ⟨p.b, 18, none⟩), .pointer (some ⟨p.b, 21, none⟩), .pointer (some ⟨p.b, 18, none⟩), .pointer (some ⟨p.b, 18, none⟩), .pointer (some ⟨p.b, 22, none⟩), .pointer (some ⟨p.b, 18, none⟩), .pointer (some ⟨p.b, 18, none⟩), .pointer (some ⟨p.b, 23, none⟩), .pointer (some ⟨p.b, 18, none⟩), .pointer (some ⟨p.b, 18, none⟩), .pointer (some ⟨p.b, 24, none⟩), .pointer (some ⟨p.b, 18, none⟩), .pointer (some ⟨p.b, 18, none⟩), .pointer (some ⟨p.b, 25, none⟩), .pointer (some ⟨p.b, 18, none⟩), .pointer (some ⟨p.b, 18, none⟩), .pointer (some ⟨p.b, 26, none⟩), .pointer (some ⟨p.b, 26, none⟩), .pointer (some ⟨p.b, 18, none⟩), .pointer (some ⟨p.b, 18, none⟩), .pointer (some ⟨p.b, 26, none⟩), .pointer (some ⟨p.b, 27, none⟩), .pointer (some ⟨p.b, 18, none⟩), .pointer (some ⟨p.b, 18, none⟩), .pointer (some ⟨p.b, 26, none⟩), .pointer (some ⟨p.b, 28, none⟩), .pointer (some ⟨p.b, 18, none⟩), .pointer (some ⟨p.b, 18, none⟩), .pointer (some ⟨p.b, 29, none⟩), .pointer (some ⟨p.b, 29, none⟩), .pointer (some ⟨p.b, 18, none⟩), .pointer (some ⟨p.b, 18, none⟩), .pointer (some ⟨p.b, 29, none⟩), .pointer (some ⟨p.b, 30, none⟩), .pointer (some ⟨p.b, 18, none⟩), .pointer (some ⟨p.b, 18, none⟩), .pointer (some ⟨p.b, 29, none⟩), .pointer (some ⟨p.b, 31, none⟩), .pointer (some ⟨p.b, 18, none⟩), .pointer (some ⟨p.b, 18, none⟩), .pointer (some ⟨p.b, 32, none⟩), .func (.func 71) #[] #[at0 p.bm], .func (.func 73) #[] #[at0 p.bm], .func (.func 75) #[] #[at0 p.bm], .agg (fv 71 73 75 70 [at0 p.bm] [at0 p.bm] [at0 p.bm] []).toArray] : List Value).getD k undef
/-- A plain operation of the region. -/
def PlOp (p : TP) (k : Nat) : Prop := ∃ o, ops9[pI k]? = some o ∧ o.dst = some (pD k) ∧ o.guard = none ∧ (∀ j ∈ pDep k, (o.after.toList.any fun e => e.on == pI j && Region.binds .any e) = true) ∧ ∀ a w, KeepA p a → SS p w → (∀ j ∈ pDep k, sl a (pD j) = pV p j) → (execOp a.eval o).run Try.prog w = .ok (.value (pV p k)) w
theorem plOp0 (p : TP) : PlOp p 0 := ⟨_, rfl, rfl, rfl, by decide, fun a w hk hs hd => run_ld rfl hk.1 hs.1⟩
theorem plOp1 (p : TP) : PlOp p 1 := ⟨_, rfl, rfl, rfl, by decide, fun a w hk hs hd => run_nc rfl (hd 0 (by simp [pDep]))⟩
theorem plOp2 (p : TP) : PlOp p 2 := ⟨_, rfl, rfl, rfl, by decide, fun a w hk hs hd => run_fa41_1 rfl (hd 1 (by simp [pDep]))⟩
theorem plOp3 (p : TP) : PlOp p 3 := ⟨_, rfl, rfl, rfl, by decide, fun a w hk hs hd => run_ld rfl hk.1 hs.1⟩
theorem plOp4 (p : TP) : PlOp p 4 := ⟨_, rfl, rfl, rfl, by decide, fun a w hk hs hd => run_nc rfl (hd 3 (by simp [pDep]))⟩
theorem plOp5 (p : TP) : PlOp p 5 := ⟨_, rfl, rfl, rfl, by decide, fun a w hk hs hd => run_fa41_2 rfl (hd 4 (by simp [pDep]))⟩
theorem plOp6 (p : TP) : PlOp p 6 := ⟨_, rfl, rfl, rfl, by decide, fun a w hk hs hd => run_ld rfl hk.1 hs.1⟩
theorem plOp7 (p : TP) : PlOp p 7 := ⟨_, rfl, rfl, rfl, by decide, fun a w hk hs hd => run_nc rfl (hd 6 (by simp [pDep]))⟩
theorem plOp8 (p : TP) : PlOp p 8 := ⟨_, rfl, rfl, rfl, by decide, fun a w hk hs hd => run_fa41_3 rfl (hd 7 (by simp [pDep]))⟩
theorem plOp9 (p : TP) : PlOp p 9 := ⟨_, rfl, rfl, rfl, by decide, fun a w hk hs hd => run_mv rfl hk.2.1⟩
theorem plOp10 (p : TP) : PlOp p 10 := ⟨_, rfl, rfl, rfl, by decide, fun a w hk hs hd => run_ld rfl hk.1 hs.1⟩
theorem plOp11 (p : TP) : PlOp p 11 := ⟨_, rfl, rfl, rfl, by decide, fun a w hk hs hd => run_nc rfl (hd 10 (by simp [pDep]))⟩
theorem plOp12 (p : TP) : PlOp p 12 := ⟨_, rfl, rfl, rfl, by decide, fun a w hk hs hd => run_fa41_6 rfl (hd 11 (by simp [pDep]))⟩
theorem plOp13 (p : TP) : PlOp p 13 := ⟨_, rfl, rfl, rfl, by decide, fun a w hk hs hd => run_ld rfl hk.1 hs.1⟩
theorem plOp14 (p : TP) : PlOp p 14 := ⟨_, rfl, rfl, rfl, by decide, fun a w hk hs hd => run_nc rfl (hd 13 (by simp [pDep]))⟩
theorem plOp15 (p : TP) : PlOp p 15 := ⟨_, rfl, rfl, rfl, by decide, fun a w hk hs hd => run_fa41_7 rfl (hd 14 (by simp [pDep]))⟩
theorem plOp16 (p : TP) : PlOp p 16 := ⟨_, rfl, rfl, rfl, by decide, fun a w hk hs hd => run_ld rfl hk.1 hs.1⟩
theorem plOp17 (p : TP) : PlOp p 17 := ⟨_, rfl, rfl, rfl, by decide, fun a w hk hs hd => run_nc rfl (hd 16 (by simp [pDep]))⟩
theorem plOp18 (p : TP) : PlOp p 18 := ⟨_, rfl, rfl, rfl, by decide, fun a w hk hs hd => run_fa41_8 rfl (hd 17 (by simp [pDep]))⟩
theorem plOp19 (p : TP) : PlOp p 19 := ⟨_, rfl, rfl, rfl, by decide, fun a w hk hs hd => run_mf rfl hk.1⟩
theorem plOp20 (p : TP) : PlOp p 20 := ⟨_, rfl, rfl, rfl, by decide, fun a w hk hs hd => run_mf rfl hk.1⟩
theorem plOp21 (p : TP) : PlOp p 21 := ⟨_, rfl, rfl, rfl, by decide, fun a w hk hs hd => run_mf rfl hk.1⟩
theorem plOp22 (p : TP) : PlOp p 22 := ⟨_, rfl, rfl, rfl, by decide, fun a w hk hs hd => run_mf rfl hk.1⟩
theorem plOp23 (p : TP) : PlOp p 23 := ⟨_, rfl, rfl, rfl, by decide, fun a w hk hs hd => by have e0 := hd 19 (by simp [pDep]); have e1 := hd 20 (by simp [pDep]); have e2 := hd 21 (by simp [pDep]); have e3 := hd 22 (by simp [pDep]); exact run_bd rfl ([(0, .func (.func 61) #[] #[at0 p.bm]), (1, .func (.func 63) #[] #[at0 p.bm]), (2, .func (.func 65) #[] #[at0 p.bm]), (3, .func (.func 66) #[] #[at0 p.bm])]) (by simp only [List.map_toArray, List.map_cons, List.map_nil, eval_sl]; rw [show sl a 95 = _ from e0, show sl a 96 = _ from e1, show sl a 97 = _ from e2, show sl a 98 = _ from e3]; rfl) _ (built_field _ _ _ _ [at0 p.bm] [at0 p.bm] [at0 p.bm] [at0 p.bm])⟩
theorem plOp24 (p : TP) : PlOp p 24 := ⟨_, rfl, rfl, rfl, by decide, fun a w hk hs hd => run_mf rfl hk.1⟩
theorem plOp25 (p : TP) : PlOp p 25 := ⟨_, rfl, rfl, rfl, by decide, fun a w hk hs hd => run_mf rfl hk.1⟩
theorem plOp26 (p : TP) : PlOp p 26 := ⟨_, rfl, rfl, rfl, by decide, fun a w hk hs hd => run_mf rfl hk.1⟩
theorem plOp27 (p : TP) : PlOp p 27 := ⟨_, rfl, rfl, rfl, by decide, fun a w hk hs hd => by have e0 := hd 24 (by simp [pDep]); have e1 := hd 25 (by simp [pDep]); have e2 := hd 26 (by simp [pDep]); exact run_bd rfl ([(0, .func (.func 67) #[] #[at0 p.bm]), (1, .func (.func 68) #[] #[at0 p.bm]), (2, .func (.func 69) #[] #[at0 p.bm]), (3, .func (.func 70) #[] #[])]) (by simp only [List.map_toArray, List.map_cons, List.map_nil, eval_sl]; rw [show sl a 100 = _ from e0, show sl a 101 = _ from e1, show sl a 102 = _ from e2]; rfl) _ (built_field _ _ _ _ [at0 p.bm] [at0 p.bm] [at0 p.bm] [])⟩
theorem plOp28 (p : TP) : PlOp p 28 := ⟨_, rfl, rfl, rfl, by decide, fun a w hk hs hd => run_lf rfl rfl hk.2.2.2.1 hs.2.1.1 hs.2.1.2⟩
theorem plOp29 (p : TP) : PlOp p 29 := ⟨_, rfl, rfl, rfl, by decide, fun a w hk hs hd => run_lf rfl rfl hk.2.2.2.2.1 hs.2.2.1.1 hs.2.2.1.2⟩
theorem plOp30 (p : TP) : PlOp p 30 := ⟨_, rfl, rfl, rfl, by decide, fun a w hk hs hd => run_lf rfl rfl hk.2.2.2.2.2 hs.2.2.2.1 hs.2.2.2.2⟩
theorem plOp31 (p : TP) : PlOp p 31 := ⟨_, rfl, rfl, rfl, by decide, fun a w hk hs hd => run_mv rfl hk.2.2.1⟩
theorem plOp32 (p : TP) : PlOp p 32 := ⟨_, rfl, rfl, rfl, by decide, fun a w hk hs hd => run_nc rfl (hd 31 (by simp [pDep]))⟩
theorem plOp33 (p : TP) : PlOp p 33 := ⟨_, rfl, rfl, rfl, by decide, fun a w hk hs hd => run_fa36_0 rfl (hd 32 (by simp [pDep]))⟩
theorem plOp34 (p : TP) : PlOp p 34 := ⟨_, rfl, rfl, rfl, by decide, fun a w hk hs hd => run_mv rfl hk.2.2.1⟩
theorem plOp35 (p : TP) : PlOp p 35 := ⟨_, rfl, rfl, rfl, by decide, fun a w hk hs hd => run_nc rfl (hd 34 (by simp [pDep]))⟩
theorem plOp36 (p : TP) : PlOp p 36 := ⟨_, rfl, rfl, rfl, by decide, fun a w hk hs hd => run_fa36_1 rfl (hd 35 (by simp [pDep]))⟩
theorem plOp37 (p : TP) : PlOp p 37 := ⟨_, rfl, rfl, rfl, by decide, fun a w hk hs hd => run_mv rfl hk.2.2.1⟩
theorem plOp38 (p : TP) : PlOp p 38 := ⟨_, rfl, rfl, rfl, by decide, fun a w hk hs hd => run_nc rfl (hd 37 (by simp [pDep]))⟩
theorem plOp39 (p : TP) : PlOp p 39 := ⟨_, rfl, rfl, rfl, by decide, fun a w hk hs hd => run_fa36_2 rfl (hd 38 (by simp [pDep]))⟩
theorem plOp40 (p : TP) : PlOp p 40 := ⟨_, rfl, rfl, rfl, by decide, fun a w hk hs hd => run_mv rfl hk.2.2.1⟩
theorem plOp41 (p : TP) : PlOp p 41 := ⟨_, rfl, rfl, rfl, by decide, fun a w hk hs hd => run_nc rfl (hd 40 (by simp [pDep]))⟩
theorem plOp42 (p : TP) : PlOp p 42 := ⟨_, rfl, rfl, rfl, by decide, fun a w hk hs hd => run_fa36_3 rfl (hd 41 (by simp [pDep]))⟩
theorem plOp43 (p : TP) : PlOp p 43 := ⟨_, rfl, rfl, rfl, by decide, fun a w hk hs hd => run_mv rfl hk.2.2.1⟩
theorem plOp44 (p : TP) : PlOp p 44 := ⟨_, rfl, rfl, rfl, by decide, fun a w hk hs hd => run_nc rfl (hd 43 (by simp [pDep]))⟩
theorem plOp45 (p : TP) : PlOp p 45 := ⟨_, rfl, rfl, rfl, by decide, fun a w hk hs hd => run_fa36_4 rfl (hd 44 (by simp [pDep]))⟩
theorem plOp46 (p : TP) : PlOp p 46 := ⟨_, rfl, rfl, rfl, by decide, fun a w hk hs hd => run_mv rfl hk.2.2.1⟩
theorem plOp47 (p : TP) : PlOp p 47 := ⟨_, rfl, rfl, rfl, by decide, fun a w hk hs hd => run_nc rfl (hd 46 (by simp [pDep]))⟩
theorem plOp48 (p : TP) : PlOp p 48 := ⟨_, rfl, rfl, rfl, by decide, fun a w hk hs hd => run_fa36_5 rfl (hd 47 (by simp [pDep]))⟩
theorem plOp49 (p : TP) : PlOp p 49 := ⟨_, rfl, rfl, rfl, by decide, fun a w hk hs hd => run_mv rfl hk.2.2.1⟩
theorem plOp50 (p : TP) : PlOp p 50 := ⟨_, rfl, rfl, rfl, by decide, fun a w hk hs hd => run_nc rfl (hd 49 (by simp [pDep]))⟩
theorem plOp51 (p : TP) : PlOp p 51 := ⟨_, rfl, rfl, rfl, by decide, fun a w hk hs hd => run_fa36_6 rfl (hd 50 (by simp [pDep]))⟩
theorem plOp52 (p : TP) : PlOp p 52 := ⟨_, rfl, rfl, rfl, by decide, fun a w hk hs hd => run_mv rfl hk.2.2.1⟩
theorem plOp53 (p : TP) : PlOp p 53 := ⟨_, rfl, rfl, rfl, by decide, fun a w hk hs hd => run_nc rfl (hd 52 (by simp [pDep]))⟩
theorem plOp54 (p : TP) : PlOp p 54 := ⟨_, rfl, rfl, rfl, by decide, fun a w hk hs hd => run_fa36_7 rfl (hd 53 (by simp [pDep]))⟩
theorem plOp55 (p : TP) : PlOp p 55 := ⟨_, rfl, rfl, rfl, by decide, fun a w hk hs hd => run_mv rfl hk.2.2.1⟩
theorem plOp56 (p : TP) : PlOp p 56 := ⟨_, rfl, rfl, rfl, by decide, fun a w hk hs hd => run_nc rfl (hd 55 (by simp [pDep]))⟩
theorem plOp57 (p : TP) : PlOp p 57 := ⟨_, rfl, rfl, rfl, by decide, fun a w hk hs hd => run_fa36_8 rfl (hd 56 (by simp [pDep]))⟩
theorem plOp58 (p : TP) : PlOp p 58 := ⟨_, rfl, rfl, rfl, by decide, fun a w hk hs hd => run_fa34_0 rfl (hd 57 (by simp [pDep]))⟩
theorem plOp59 (p : TP) : PlOp p 59 := ⟨_, rfl, rfl, rfl, by decide, fun a w hk hs hd => run_mv rfl hk.2.2.1⟩
theorem plOp60 (p : TP) : PlOp p 60 := ⟨_, rfl, rfl, rfl, by decide, fun a w hk hs hd => run_nc rfl (hd 59 (by simp [pDep]))⟩
theorem plOp61 (p : TP) : PlOp p 61 := ⟨_, rfl, rfl, rfl, by decide, fun a w hk hs hd => run_fa36_8 rfl (hd 60 (by simp [pDep]))⟩
theorem plOp62 (p : TP) : PlOp p 62 := ⟨_, rfl, rfl, rfl, by decide, fun a w hk hs hd => run_fa34_1 rfl (hd 61 (by simp [pDep]))⟩
theorem plOp63 (p : TP) : PlOp p 63 := ⟨_, rfl, rfl, rfl, by decide, fun a w hk hs hd => run_mv rfl hk.2.2.1⟩
theorem plOp64 (p : TP) : PlOp p 64 := ⟨_, rfl, rfl, rfl, by decide, fun a w hk hs hd => run_nc rfl (hd 63 (by simp [pDep]))⟩
theorem plOp65 (p : TP) : PlOp p 65 := ⟨_, rfl, rfl, rfl, by decide, fun a w hk hs hd => run_fa36_8 rfl (hd 64 (by simp [pDep]))⟩
theorem plOp66 (p : TP) : PlOp p 66 := ⟨_, rfl, rfl, rfl, by decide, fun a w hk hs hd => run_fa34_2 rfl (hd 65 (by simp [pDep]))⟩
theorem plOp67 (p : TP) : PlOp p 67 := ⟨_, rfl, rfl, rfl, by decide, fun a w hk hs hd => run_mv rfl hk.2.2.1⟩
theorem plOp68 (p : TP) : PlOp p 68 := ⟨_, rfl, rfl, rfl, by decide, fun a w hk hs hd => run_nc rfl (hd 67 (by simp [pDep]))⟩
theorem plOp69 (p : TP) : PlOp p 69 := ⟨_, rfl, rfl, rfl, by decide, fun a w hk hs hd => run_fa36_9 rfl (hd 68 (by simp [pDep]))⟩
theorem plOp70 (p : TP) : PlOp p 70 := ⟨_, rfl, rfl, rfl, by decide, fun a w hk hs hd => run_fa34_0 rfl (hd 69 (by simp [pDep]))⟩
theorem plOp71 (p : TP) : PlOp p 71 := ⟨_, rfl, rfl, rfl, by decide, fun a w hk hs hd => run_mv rfl hk.2.2.1⟩
theorem plOp72 (p : TP) : PlOp p 72 := ⟨_, rfl, rfl, rfl, by decide, fun a w hk hs hd => run_nc rfl (hd 71 (by simp [pDep]))⟩
theorem plOp73 (p : TP) : PlOp p 73 := ⟨_, rfl, rfl, rfl, by decide, fun a w hk hs hd => run_fa36_9 rfl (hd 72 (by simp [pDep]))⟩
theorem plOp74 (p : TP) : PlOp p 74 := ⟨_, rfl, rfl, rfl, by decide, fun a w hk hs hd => run_fa34_1 rfl (hd 73 (by simp [pDep]))⟩
theorem plOp75 (p : TP) : PlOp p 75 := ⟨_, rfl, rfl, rfl, by decide, fun a w hk hs hd => run_mv rfl hk.2.2.1⟩
theorem plOp76 (p : TP) : PlOp p 76 := ⟨_, rfl, rfl, rfl, by decide, fun a w hk hs hd => run_nc rfl (hd 75 (by simp [pDep]))⟩
theorem plOp77 (p : TP) : PlOp p 77 := ⟨_, rfl, rfl, rfl, by decide, fun a w hk hs hd => run_fa36_9 rfl (hd 76 (by simp [pDep]))⟩
theorem plOp78 (p : TP) : PlOp p 78 := ⟨_, rfl, rfl, rfl, by decide, fun a w hk hs hd => run_fa34_2 rfl (hd 77 (by simp [pDep]))⟩
theorem plOp79 (p : TP) : PlOp p 79 := ⟨_, rfl, rfl, rfl, by decide, fun a w hk hs hd => run_mv rfl hk.2.2.1⟩
theorem plOp80 (p : TP) : PlOp p 80 := ⟨_, rfl, rfl, rfl, by decide, fun a w hk hs hd => run_nc rfl (hd 79 (by simp [pDep]))⟩
theorem plOp81 (p : TP) : PlOp p 81 := ⟨_, rfl, rfl, rfl, by decide, fun a w hk hs hd => run_fa36_10 rfl (hd 80 (by simp [pDep]))⟩
theorem plOp82 (p : TP) : PlOp p 82 := ⟨_, rfl, rfl, rfl, by decide, fun a w hk hs hd => run_mf rfl hk.1⟩
theorem plOp83 (p : TP) : PlOp p 83 := ⟨_, rfl, rfl, rfl, by decide, fun a w hk hs hd => run_mf rfl hk.1⟩
theorem plOp84 (p : TP) : PlOp p 84 := ⟨_, rfl, rfl, rfl, by decide, fun a w hk hs hd => run_mf rfl hk.1⟩
theorem plOp85 (p : TP) : PlOp p 85 := ⟨_, rfl, rfl, rfl, by decide, fun a w hk hs hd => by have e0 := hd 82 (by simp [pDep]); have e1 := hd 83 (by simp [pDep]); have e2 := hd 84 (by simp [pDep]); exact run_bd rfl ([(0, .func (.func 71) #[] #[at0 p.bm]), (1, .func (.func 73) #[] #[at0 p.bm]), (2, .func (.func 75) #[] #[at0 p.bm]), (3, .func (.func 70) #[] #[])]) (by simp only [List.map_toArray, List.map_cons, List.map_nil, eval_sl]; rw [show sl a 161 = _ from e0, show sl a 162 = _ from e1, show sl a 163 = _ from e2]; rfl) _ (built_field _ _ _ _ [at0 p.bm] [at0 p.bm] [at0 p.bm] [])⟩
theorem plOps (p : TP) (k : Nat) (h : k < 86) : PlOp p k := by
 have : k = 0 ∨ k = 1 ∨ k = 2 ∨ k = 3 ∨ k = 4 ∨ k = 5 ∨ k = 6 ∨ k = 7 ∨ k = 8 ∨ k = 9 ∨ k = 10 ∨ k = 11 ∨ k = 12 ∨ k = 13 ∨ k = 14 ∨ k = 15 ∨ k = 16 ∨ k = 17 ∨ k = 18 ∨ k = 19 ∨ k = 20 ∨ k = 21 ∨ k = 22 ∨ k = 23 ∨ k = 24 ∨ k = 25 ∨ k = 26 ∨ k = 27 ∨ k = 28 ∨ k = 29 ∨ k = 30 ∨ k = 31 ∨ k = 32 ∨ k = 33 ∨ k = 34 ∨ k = 35 ∨ k = 36 ∨ k = 37 ∨ k = 38 ∨ k = 39 ∨ k = 40 ∨ k = 41 ∨ k = 42 ∨ k = 43 ∨ k = 44 ∨ k = 45 ∨ k = 46 ∨ k = 47 ∨ k = 48 ∨ k = 49 ∨ k = 50 ∨ k = 51 ∨ k = 52 ∨ k = 53 ∨ k = 54 ∨ k = 55 ∨ k = 56 ∨ k = 57 ∨ k = 58 ∨ k = 59 ∨ k = 60 ∨ k = 61 ∨ k = 62 ∨ k = 63 ∨ k = 64 ∨ k = 65 ∨ k = 66 ∨ k = 67 ∨ k = 68 ∨ k = 69 ∨ k = 70 ∨ k = 71 ∨ k = 72 ∨ k = 73 ∨ k = 74 ∨ k = 75 ∨ k = 76 ∨ k = 77 ∨ k = 78 ∨ k = 79 ∨ k = 80 ∨ k = 81 ∨ k = 82 ∨ k = 83 ∨ k = 84 ∨ k = 85 := by omega
 rcases this with rfl | rfl | rfl | rfl | rfl | rfl | rfl | rfl | rfl | rfl | rfl | rfl | rfl | rfl | rfl | rfl | rfl | rfl | rfl | rfl | rfl | rfl | rfl | rfl | rfl | rfl | rfl | rfl | rfl | rfl | rfl | rfl | rfl | rfl | rfl | rfl | rfl | rfl | rfl | rfl | rfl | rfl | rfl | rfl | rfl | rfl | rfl | rfl | rfl | rfl | rfl | rfl | rfl | rfl | rfl | rfl | rfl | rfl | rfl | rfl | rfl | rfl | rfl | rfl | rfl | rfl | rfl | rfl | rfl | rfl | rfl | rfl | rfl | rfl | rfl | rfl | rfl | rfl | rfl | rfl | rfl | rfl | rfl | rfl | rfl | rfl
 ·exact plOp0 p
 ·exact plOp1 p
 ·exact plOp2 p
 ·exact plOp3 p
 ·exact plOp4 p
 ·exact plOp5 p
 ·exact plOp6 p
 ·exact plOp7 p
 ·exact plOp8 p
 ·exact plOp9 p
 ·exact plOp10 p
 ·exact plOp11 p
 ·exact plOp12 p
 ·exact plOp13 p
 ·exact plOp14 p
 ·exact plOp15 p
 ·exact plOp16 p
 ·exact plOp17 p
 ·exact plOp18 p
 ·exact plOp19 p
 ·exact plOp20 p
 ·exact plOp21 p
 ·exact plOp22 p
 ·exact plOp23 p
 ·exact plOp24 p
 ·exact plOp25 p
 ·exact plOp26 p
 ·exact plOp27 p
 ·exact plOp28 p
 ·exact plOp29 p
 ·exact plOp30 p
 ·exact plOp31 p
 ·exact plOp32 p
 ·exact plOp33 p
 ·exact plOp34 p
 ·exact plOp35 p
 ·exact plOp36 p
 ·exact plOp37 p
 ·exact plOp38 p
 ·exact plOp39 p
 ·exact plOp40 p
 ·exact plOp41 p
 ·exact plOp42 p
 ·exact plOp43 p
 ·exact plOp44 p
 ·exact plOp45 p
 ·exact plOp46 p
 ·exact plOp47 p
 ·exact plOp48 p
 ·exact plOp49 p
 ·exact plOp50 p
 ·exact plOp51 p
 ·exact plOp52 p
 ·exact plOp53 p
 ·exact plOp54 p
 ·exact plOp55 p
 ·exact plOp56 p
 ·exact plOp57 p
 ·exact plOp58 p
 ·exact plOp59 p
 ·exact plOp60 p
 ·exact plOp61 p
 ·exact plOp62 p
 ·exact plOp63 p
 ·exact plOp64 p
 ·exact plOp65 p
 ·exact plOp66 p
 ·exact plOp67 p
 ·exact plOp68 p
 ·exact plOp69 p
 ·exact plOp70 p
 ·exact plOp71 p
 ·exact plOp72 p
 ·exact plOp73 p
 ·exact plOp74 p
 ·exact plOp75 p
 ·exact plOp76 p
 ·exact plOp77 p
 ·exact plOp78 p
 ·exact plOp79 p
 ·exact plOp80 p
 ·exact plOp81 p
 ·exact plOp82 p
 ·exact plOp83 p
 ·exact plOp84 p
 ·exact plOp85 p
end Go.Proofs.Ytpbgelhjbfckcaa
