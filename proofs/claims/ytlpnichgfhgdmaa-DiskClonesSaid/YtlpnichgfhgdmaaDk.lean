/- A disk in memory; the methods that look at it or turn one number. -/
import Derived.Test.YtlpnichgfhgdmaaTouch
import Derived.Test.YtlpnichgfhgdmaaRegion
import Derived.Test.YtlpnichgfhgdmaaModel
import Derived.Deep.AppendLies
namespace Go.Proofs.Ytlpnichgfhgdmaa
open Go.ChangeShapes Go.WideShapes Go.ChangeAt Go.RowKit
set_option linter.unusedVariables false

def pcells (ps : List (List UInt8)) : List Value := ps.flatten.map bv
def wcells (x : Nat × List UInt8) : List Value := .int .i64 x.1 :: x.2.map bv
def pendCells (ws : List (Nat × List UInt8)) : List Value := (ws.map wcells).flatten

/-- A slice that owns its cells (nil, or the head of a row that is not frozen). -/
abbrev Row (w : World) (t : TypeId) (size : Nat) (v : Value) (n : Nat) (cs : List Value) : Prop := w.ownsRow 0 t size v n cs
theorem Row.form {w : World} {t : TypeId} {size : Nat} {v : Value} {n : Nat} {cs : List Value} (h : Row w t size v n cs) : ∃ A c, v = .slice A n c ∧ n ≤ c ∧ c ≤ 9223372036854775807 := by
  obtain ⟨hl, ⟨rfl, rfl⟩ | ⟨g, cap, cur, rfl, _, _, hn, hm, _⟩⟩ := h
  · exact ⟨none, 0, rfl, Nat.le_refl _, by omega⟩
  · exact ⟨_, cap, rfl, hn, by unfold maxLen at hm; omega⟩
theorem Row.touch {S : List Nat} {w w' : World} {t : TypeId} {size : Nat} {v : Value} {n : Nat} {cs : List Value} (h : Row w t size v n cs) (k : Touch S w w') (hv : ∀ j, v.ownBlock = some j → j ∉ S) : Row w' t size v n cs := by
  refine ⟨h.1, ?_⟩
  rcases h.2 with hn | ⟨g, cap, cur, rfl, hb, hgg, rest⟩
  · exact .inl hn
  · exact .inr ⟨g, cap, cur, rfl, hb, (k.block g (World.ownsRow.lt h g rfl).2 (hv g rfl)).trans hgg, rest⟩

/-- Block d is a disk in the state D; F: all blocks that it takes up. -/
structure Dk (w : World) (d : Nat) (F : List Nat) (D : DS) (gv pv : Value) : Prop where
  blk : Blk w d 63 #[gv, pv, .int .i64 D.fuse, .bool D.failed]
  pages : Row w 64 128 gv D.pages.length (pcells D.pages)
  pend : Row w 71 129 pv D.pend.length (pendCells D.pend)
  inF : d ∈ F
  gF : ∀ j, gv.ownBlock = some j → j ∈ F ∧ j ≠ d
  pF : ∀ j, pv.ownBlock = some j → j ∈ F ∧ j ≠ d ∧ gv.ownBlock ≠ some j
  lt : ∀ j ∈ F, j < w.heap.size
  ok : D.Ok
theorem Dk.touch {S F : List Nat} {w w' : World} {d : Nat} {D : DS} {gv pv : Value} (h : Dk w d F D gv pv) (k : Touch S w w') (hS : ∀ j ∈ F, j ∉ S) : Dk w' d F D gv pv :=
  ⟨h.blk.touch k (hS d h.inF), h.pages.touch k fun j hj => hS j (h.gF j hj).1, h.pend.touch k fun j hj => hS j (h.pF j hj).1, h.inF, h.gF, h.pF, fun j hj => Nat.lt_of_lt_of_le (h.lt j hj) k.size, h.ok⟩
theorem Dk.step {F : List Nat} {w w' : World} {d : Nat} {D : DS} {gv pv : Value} (h : Dk w d F D gv pv) (hb : Below w.heap.size w w') : Dk w' d F D gv pv := h.touch (Touch.below hb []) (by simp)
theorem Dk.cells {F : List Nat} {w : World} {d : Nat} {D : DS} {gv pv : Value} (h : Dk w d F D gv pv) :
    w.cell? ⟨d, 0, none⟩ = some gv ∧ w.cell? ⟨d, 1, none⟩ = some pv ∧ w.cell? ⟨d, 2, none⟩ = some (.int .i64 D.fuse) ∧ w.cell? ⟨d, 3, none⟩ = some (.bool D.failed) ∧
    w.frozen? ⟨d, 0, none⟩ = false ∧ w.frozen? ⟨d, 1, none⟩ = false ∧ w.frozen? ⟨d, 2, none⟩ = false ∧ w.frozen? ⟨d, 3, none⟩ = false :=
  ⟨h.blk.cell 0, h.blk.cell 1, h.blk.cell 2, h.blk.cell 3, h.blk.froz 0, h.blk.froz 1, h.blk.froz 2, h.blk.froz 3⟩
/-- The disk is in the state D. -/
def Disk (w : World) (d : Nat) (F : List Nat) (D : DS) : Prop := ∃ gv pv, Dk w d F D gv pv
theorem Disk.touch {S F : List Nat} {w w' : World} {d : Nat} {D : DS} (h : Disk w d F D) (k : Touch S w w') (hS : ∀ j ∈ F, j ∉ S) : Disk w' d F D := by obtain ⟨gv, pv, h⟩ := h; exact ⟨gv, pv, h.touch k hS⟩
theorem Disk.step {F : List Nat} {w w' : World} {d : Nat} {D : DS} (h : Disk w d F D) (hb : Below w.heap.size w w') : Disk w' d F D := by obtain ⟨gv, pv, h⟩ := h; exact ⟨gv, pv, h.step hb⟩
theorem Disk.ok {F : List Nat} {w : World} {d : Nat} {D : DS} (h : Disk w d F D) : D.Ok := by obtain ⟨gv, pv, h⟩ := h; exact h.ok
/-- A call that leaves the disk in the state D and turns nothing else that lay there. -/
def Does (w : World) (d : Nat) (F : List Nat) (D : DS) (v : Value) (e : Ending) (w' : World) : Prop :=
  e = .returned v ∧ ∃ F', Disk w' d F' D ∧ Touch F w w' ∧ ∀ j ∈ F', j ∈ F ∨ w.heap.size ≤ j

/-- One field of the disk is stored to. -/
theorem Dk.fuse {F : List Nat} {w : World} {d : Nat} {D : DS} {gv pv : Value} (h : Dk w d F D gv pv) (z : Int) (hz : -1 ≤ z ∧ z ≤ 9223372036854775807) : Dk (w.setCell ⟨d, 2, none⟩ (.int .i64 z)) d F { D with fuse := z } gv pv := by
  have k : Touch [d] w (w.setCell ⟨d, 2, none⟩ (.int .i64 z)) := (Touch.refl [d] w).set (by simp) 2 _
  exact ⟨h.blk.put 2 _, h.pages.touch k fun j hj => by simp; exact (h.gF j hj).2, h.pend.touch k fun j hj => by simp; exact (h.pF j hj).2.1, h.inF, h.gF, h.pF, fun j hj => Nat.lt_of_lt_of_le (h.lt j hj) k.size, ⟨h.ok.pages, h.ok.pend, hz⟩⟩
theorem Dk.failed {F : List Nat} {w : World} {d : Nat} {D : DS} {gv pv : Value} (h : Dk w d F D gv pv) (b : Bool) : Dk (w.setCell ⟨d, 3, none⟩ (.bool b)) d F { D with failed := b } gv pv := by
  have k : Touch [d] w (w.setCell ⟨d, 3, none⟩ (.bool b)) := (Touch.refl [d] w).set (by simp) 3 _
  exact ⟨h.blk.put 3 _, h.pages.touch k fun j hj => by simp; exact (h.gF j hj).2, h.pend.touch k fun j hj => by simp; exact (h.pF j hj).2.1, h.inF, h.gF, h.pF, fun j hj => Nat.lt_of_lt_of_le (h.lt j hj) k.size, ⟨h.ok.pages, h.ok.pend, h.ok.fuse⟩⟩
theorem touch_set {F : List Nat} {w : World} {d : Nat} (h : d ∈ F) (o : Nat) (v : Value) : Touch F w (w.setCell ⟨d, o, none⟩ v) := (Touch.refl F w).set (.inl h) o v

set_option maxHeartbeats 1000000 in
theorem pages_c (d : Nat) (F : List Nat) (D : DS) (w : World) (h : Disk w d F D) :
    Calls Try.prog 12 #[.pointer (some ⟨d, 0, none⟩)] w fun e w' => e = .returned (.int .i64 D.pages.length) ∧ w = w' := by
  obtain ⟨gv, pv, h⟩ := h
  obtain ⟨c0, c1, c2, c3, f0, f1, f2, f3⟩ := h.cells
  obtain ⟨A, c, rfl, _, _⟩ := h.pages.form
  clear h
  generalize D.pages.length = n at *
  go_enter Try.func12, Try.ntmps12
  go_wp2_with fail
  go_ret
  exact ⟨rfl, rfl⟩
set_option maxHeartbeats 1000000 in
theorem pending_c (d : Nat) (F : List Nat) (D : DS) (w : World) (h : Disk w d F D) :
    Calls Try.prog 13 #[.pointer (some ⟨d, 0, none⟩)] w fun e w' => e = .returned (.int .i64 D.pend.length) ∧ w = w' := by
  obtain ⟨gv, pv, h⟩ := h
  obtain ⟨c0, c1, c2, c3, f0, f1, f2, f3⟩ := h.cells
  obtain ⟨A, c, rfl, _, _⟩ := h.pend.form
  clear h
  generalize D.pend.length = n at *
  go_enter Try.func13, Try.ntmps13
  go_wp2_with fail
  go_ret
  exact ⟨rfl, rfl⟩
set_option maxHeartbeats 1000000 in
theorem failed_c (d : Nat) (F : List Nat) (D : DS) (w : World) (h : Disk w d F D) :
    Calls Try.prog 14 #[.pointer (some ⟨d, 0, none⟩)] w fun e w' => e = .returned (.bool D.failed) ∧ w = w' := by
  obtain ⟨gv, pv, h⟩ := h
  obtain ⟨c0, c1, c2, c3, f0, f1, f2, f3⟩ := h.cells
  clear h
  generalize D.failed = n at *
  go_enter Try.func14, Try.ntmps14
  go_wp2_with fail
  go_ret
  exact ⟨rfl, rfl⟩
set_option maxHeartbeats 1000000 in
theorem there_c (d : Nat) (F : List Nat) (D : DS) (p : Int) (w : World) (h : Disk w d F D) :
    Calls Try.prog 29 #[.pointer (some ⟨d, 0, none⟩), .int .i64 p] w fun e w' => e = .returned (.bool (thereB D p)) ∧ w = w' := by
  obtain ⟨gv, pv, h⟩ := h
  obtain ⟨c0, c1, c2, c3, f0, f1, f2, f3⟩ := h.cells
  obtain ⟨A, c, rfl, _, _⟩ := h.pages.form
  unfold thereB
  clear h
  generalize D.pages.length = n at *
  by_cases hp : 0 ≤ p
  · have hd : decide (0 ≤ p) = true := by simpa using hp
    rw [hd, Bool.true_and]
    by_cases hn : p < n
    · have hd2 : decide (p < (n : Int)) = true := by simpa using hn
      rw [hd2]
      go_enter Try.func29, Try.ntmps29
      go_wp2_with fail
      go_ret
      exact ⟨rfl, rfl⟩
    · have hd2 : decide (p < (n : Int)) = false := by simpa using hn
      rw [hd2]
      go_enter Try.func29, Try.ntmps29
      go_wp2_with fail
      go_ret
      exact ⟨rfl, rfl⟩
  · have hd : decide (0 ≤ p) = false := by simpa using hp
    rw [hd, Bool.false_and]
    go_enter Try.func29, Try.ntmps29
    go_wp2_with fail
    go_ret
    exact ⟨rfl, rfl⟩
set_option maxHeartbeats 1000000 in
theorem burn_c (d : Nat) (F : List Nat) (D : DS) (w : World) (h : Disk w d F D) :
    Calls Try.prog 31 #[.pointer (some ⟨d, 0, none⟩)] w (Does w d F (dBurn D).1 (.int .i64 (dBurn D).2)) := by
  obtain ⟨gv, pv, h⟩ := h
  obtain ⟨c0, c1, c2, c3, f0, f1, f2, f3⟩ := h.cells
  have hz := h.ok.fuse
  have H := hide h
  clear h
  by_cases h0 : D.fuse = 0
  · have hr : dBurn D = ({ D with failed := true }, 10) := by unfold dBurn; rw [if_pos h0]
    rw [hr]
    rw [h0] at c2
    clear hr h0 hz
    generalize D.failed = b at c3
    go_enter Try.func31, Try.ntmps31
    go_wp2_with fail
    go_ret
    exact ⟨rfl, F, ⟨gv, pv, H.out.failed true⟩, touch_set H.out.inF 3 _, fun j hj => .inl hj⟩
  · by_cases h1 : 0 < D.fuse
    · have hr : dBurn D = ({ D with fuse := D.fuse - 1 }, 0) := by unfold dBurn; rw [if_neg h0, if_pos h1]
      rw [hr]
      have HF := hide (H.out.fuse (D.fuse - 1) (by omega))
      generalize hzz : D.fuse = z at *
      clear hr hzz
      have hz0 : (z == 0) = false := by simpa using h0
      go_enter Try.func31, Try.ntmps31
      go_wp2_with fail
      go_ret
      exact ⟨rfl, F, ⟨gv, pv, HF.out⟩, touch_set H.out.inF 2 _, fun j hj => .inl hj⟩
    · have hr : dBurn D = (D, 0) := by unfold dBurn; rw [if_neg h0, if_neg h1]
      rw [hr]
      generalize hzz : D.fuse = z at *
      clear hr hzz
      have hz0 : (z == 0) = false := by simpa using h0
      go_enter Try.func31, Try.ntmps31
      go_wp2_with fail
      go_ret
      exact ⟨rfl, F, ⟨gv, pv, H.out⟩, Touch.refl _ _, fun j hj => .inl hj⟩
end Go.Proofs.Ytlpnichgfhgdmaa
