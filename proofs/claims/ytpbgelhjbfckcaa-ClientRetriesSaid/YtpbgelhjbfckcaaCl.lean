/- A client in memory: its four numbers and the open request; New, send. -/
import Derived.Test.YtpbgelhjbfckcaaMsg
import Derived.Deep.MidRow
import Derived.Deep.AppendLies
namespace Go.Proofs.Ytpbgelhjbfckcaa
open Go.ChangeShapes Go.WideShapes Go.ChangeAt Go.RowKit
set_option linter.unusedVariables false

/-- The state of a client: the open request is a row of 47 cells. -/
structure CS where
  id : Int
  machines : Int
  target : Int
  number : Int
  opened : Option (List Value)
structure CS.Ok (S : CS) : Prop where
  id : 1 ≤ S.id ∧ S.id ≤ 8
  machines : 1 ≤ S.machines ∧ S.machines ≤ 16
  target : 1 ≤ S.target ∧ S.target ≤ S.machines
  number : 0 ≤ S.number ∧ S.number ≤ 1000000
  opened : ∀ cs, S.opened = some cs → cs.length = 47 ∧ cs.toArray.all (·.oneCell') = true
/-- Block g is the client S. -/
structure Cl (w : World) (g : Nat) (S : CS) (p : Value) : Prop where
  blk : Blk w g 74 #[.int .i64 S.id, .int .i64 S.machines, .int .i64 S.target, .int .i64 S.number, p]
  ok : S.Ok
  shut : S.opened = none → p = .pointer none
  opened : ∀ cs, S.opened = some cs → ∃ b, b ≠ g ∧ p = .pointer (some ⟨b, 0, none⟩) ∧ Blk w b 41 cs.toArray
theorem Cl.lt {w : World} {g : Nat} {S : CS} {p : Value} (h : Cl w g S p) : g < w.heap.size := h.blk.lt
theorem Cl.step {w w' : World} {g : Nat} {S : CS} {p : Value} (h : Cl w g S p) (hb : Below w.heap.size w w') : Cl w' g S p :=
  ⟨h.blk.step hb, h.ok, h.shut, fun cs hc => by obtain ⟨b, h1, h2, h3⟩ := h.opened cs hc; exact ⟨b, h1, h2, h3.step hb⟩⟩
theorem Cl.cells {w : World} {g : Nat} {S : CS} {p : Value} (h : Cl w g S p) :
    w.cell? ⟨g, 0, none⟩ = some (.int .i64 S.id) ∧ w.cell? ⟨g, 1, none⟩ = some (.int .i64 S.machines) ∧ w.cell? ⟨g, 2, none⟩ = some (.int .i64 S.target) ∧ w.cell? ⟨g, 3, none⟩ = some (.int .i64 S.number) ∧ w.cell? ⟨g, 4, none⟩ = some p ∧
    w.frozen? ⟨g, 0, none⟩ = false ∧ w.frozen? ⟨g, 1, none⟩ = false ∧ w.frozen? ⟨g, 2, none⟩ = false ∧ w.frozen? ⟨g, 3, none⟩ = false ∧ w.frozen? ⟨g, 4, none⟩ = false :=
  ⟨h.blk.cell 0, h.blk.cell 1, h.blk.cell 2, h.blk.cell 3, h.blk.cell 4, h.blk.froz 0, h.blk.froz 1, h.blk.froz 2, h.blk.froz 3, h.blk.froz 4⟩

def csNew (i n : Int) : CS := ⟨i, n, 1, 0, none⟩

theorem run_build_client (a b : Int) (w : World) : (Instr.build 74 #[(0, .int .i64 a), (1, .int .i64 b), (2, .int .i64 1)]).run Try.prog w = .ok (.agg #[.int .i64 a, .int .i64 b, .int .i64 1, zi, .pointer none]) w :=
  run_build w _ _ _ (built_client a b)
def NewCl (w : World) (i n : Int) (e : Ending) (w' : World) : Prop := e = .returned (.pointer (some ⟨w.heap.size, 0, none⟩)) ∧ Cl w' w.heap.size (csNew i n) (.pointer none) ∧ Below w.heap.size w w'
theorem new_c (i n : Int) (hi : 1 ≤ i ∧ i ≤ 8) (hn : 1 ≤ n ∧ n ≤ 16) (w : World) : Calls Try.prog 9 #[.int .i64 i, .int .i64 n] w (NewCl w i n) := by
  obtain ⟨i1, i2⟩ := hi
  obtain ⟨n1, n2⟩ := hn
  have hm := run_build_client i n
  go_enter Try.func9, Try.ntmps9
  go_wp2_with fail
  clear hm
  go_ret
  refine ⟨rfl, ⟨Blk.new _ _ _, ⟨⟨i1, i2⟩, ⟨n1, n2⟩, ⟨Int.le_refl _, n1⟩, ⟨Int.le_refl _, by show (0:Int) ≤ 1000000; decide⟩, by intro cs hc; cases hc⟩, fun _ => rfl, by intro cs hc; cases hc⟩, (Below.refl _ _).alloc (Nat.le_refl _) _⟩

theorem new_bad (i n : Int) (h : ¬ ((1 ≤ i ∧ i ≤ 8) ∧ 1 ≤ n ∧ n ≤ 16)) (w : World) : Calls Try.prog 9 #[.int .i64 i, .int .i64 n] w fun e w' => e = .returned (.pointer none) ∧ w = w' := by
  by_cases h1 : i < 1
  · clear h
    go_enter Try.func9, Try.ntmps9
    go_wp2_with fail
    go_ret
    exact ⟨rfl, rfl⟩
  have h1' : 1 ≤ i := by omega
  by_cases h2 : 8 < i
  · clear h h1
    go_enter Try.func9, Try.ntmps9
    go_wp2_with fail
    go_ret
    exact ⟨rfl, rfl⟩
  have h2' : i ≤ 8 := by omega
  by_cases h3 : n < 1
  · clear h h1 h2
    go_enter Try.func9, Try.ntmps9
    go_wp2_with fail
    go_ret
    exact ⟨rfl, rfl⟩
  have h3' : 1 ≤ n := by omega
  have h4' : 16 < n := by
    rcases Int.lt_or_le 16 n with h4 | h4
    · exact h4
    · exact absurd ⟨⟨h1', h2'⟩, h3', h4⟩ h
  clear h h1 h2 h3
  go_enter Try.func9, Try.ntmps9
  go_wp2_with fail
  go_ret
  exact ⟨rfl, rfl⟩

theorem step_load_blk {P : Program} {w : World} {ops : Array Oper} {o : Oper} {a : Act} {K : Act → World → Prop} {Q : Exit → Act → World → Prop} {E : Prop} (hgd : o.guard = none) (ty : TypeId) (x : Operand) (ho : o.op = .load ty x)
    (g : Nat) (t : TypeId) (cs : Array Value) (d : TypeDesc) (hx : a.eval x = .pointer (some ⟨g, 0, none⟩)) (hb : Blk w g t cs)
    (hu : P.underlying ty = some d) (hd : (match d with | .struct _ | .array _ _ => true | _ => false) = true) (hi : (P.info? ty).map (·.size) = some cs.size)
    (h : K (a.put o.dst (.agg cs)) w) : if Region.wanted o (yielded ops a.tmps) = true then Oper.wp P o a w K Q else E := by
  have hw : Region.wanted o (yielded ops a.tmps) = true := by simp [Region.wanted, hgd]
  rw [if_pos hw]
  exact wp_load_row ty x ho g hx t cs (0, 0) d hb hu hd hi h
theorem step_build {P : Program} {w : World} {ops : Array Oper} {o : Oper} {a : Act} {K : Act → World → Prop} {Q : Exit → Act → World → Prop} {E : Prop} (hgd : o.guard = none) (t : TypeId) (parts : Array (Nat × Operand)) (ho : o.op = .build t parts)
    (vs : List (Nat × Value)) (he : (parts.map fun (i, x) => (i, a.eval x)).toList = vs) (cells : Array Value) (hc : P.built t vs = some cells)
    (h : K (a.put o.dst (.agg cells)) w) : if Region.wanted o (yielded ops a.tmps) = true then Oper.wp P o a w K Q else E := by
  have hw : Region.wanted o (yielded ops a.tmps) = true := by simp [Region.wanted, hgd]
  rw [if_pos hw]
  unfold Oper.wp execOp
  subst he
  simp only [ho, Sem.run_bind, run_build w t _ cells hc, Result.andThen_ok]
  exact h
end Go.Proofs.Ytpbgelhjbfckcaa
