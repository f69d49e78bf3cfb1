/- bytes.Clone, bytes.Equal. -/
import Derived.Test.YtobcomognkokmaaBytes
import Derived.WalkSpells
namespace Go.Proofs.Ytobcomognkokmaa
open Go.ChangeShapes Go.WideShapes Go.ChangeAt Go.RowKit
set_option linter.unusedVariables false

/-- The call returns new memory with the bytes l; nothing that was there has turned. -/
def Fresh (w : World) (l : List UInt8) (e : Ending) (w' : World) : Prop := ∃ v, e = .returned v ∧ Ow w' w.heap.size v l ∧ Below w.heap.size w w'

theorem below_append {B base : Nat} {a w w' : World} {v : Value} {l : List UInt8} (h : Below B a w) (ho : Ow w base v l) (hg : w.grownBy w' v.ownBlock) (hB : B ≤ w.heap.size) (hbase : B ≤ base) : Below B a w' :=
  h.grown hg hB fun k hk => Nat.le_trans hbase (ho.lt k hk).1

set_option maxHeartbeats 1000000 in
theorem clone_b (v : Value) (l : List UInt8) (w : World) (h : Bs w v l) (hl : l.length ≤ 140737488355328) : Calls Try.prog 35 #[v] w (Fresh w l) := by
  obtain ⟨A, c, rfl, hc, hm⟩ := h.form
  have H := hide h
  have HL := hide hl
  clear h hl hc hm
  have heq := fun (w : World) (A : Option Addr) (n c : Nat) => Lib.run_eql_slice_nil (P := Try.prog) w 22 5 A n c 0 0 Try.underlying22
  have HL2 : Hid (0 + l.length ≤ 140737488355328) := by unfold Hid; have := HL.out; omega
  generalize hn : l.length = n at H heq
  clear hn
  cases A with
  | none =>
    have hnil : l = [] := by
      obtain ⟨A', c', hv, _, _, h3⟩ := H.out
      injection hv with e1 e2 e3
      rcases Nat.eq_zero_or_pos l.length with h0 | h0
      · exact List.eq_nil_of_length_eq_zero h0
      · obtain ⟨b, off, e, _⟩ := h3 h0
        rw [← e1] at e; cases e
    have HN := hide hnil
    clear hnil
    go_enter Try.func35, Try.ntmps35
    go_wp2_with fail
    go_ret
    exact ⟨_, rfl, by rw [HN.out]; exact Ow.nil _ _, Below.refl _ _⟩
  | some a =>
    go_enter Try.func35, Try.ntmps35
    go_wp2_with (at_builtin; refine wpList_append_bs rfl _ _ rfl w.heap.size (l := []) (m := l) rfl (Ow.made [] #[] rfl (Nat.le_refl _) (by simp)) rfl (H.out.alloc _) HL2.out (by simp) ?_; intro v1 w1 how hg hw)
    go_ret
    exact ⟨_, rfl, how, below_grown ((Below.refl _ _).alloc (Nat.le_refl _) _) hg (by simp) (Nat.le_refl _)⟩

end Go.Proofs.Ytobcomognkokmaa
