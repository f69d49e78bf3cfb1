/- A disk in memory; the methods that look at it or turn one number. -/
import Derived.Test.YtpadgkkeihhneaaGreatC01
import Derived.Test.YtpadgkkeihhneaaGreatC02
import Derived.Deep.AppendLies
import Derived.WalkLawsBesides
namespace Go.Proofs.YtpadgkkeihhneaaGreat
set_option maxRecDepth 100000
set_option linter.unusedSimpArgs false
set_option linter.unusedVariables false
section
open Go.ChangeShapes Go.WideShapes Go.ChangeAt Go.RowKit
def pcells (ps : List (List UInt8)) : List Value := ps.flatten.map bv
def wcells (x : Nat × List UInt8) : List Value := .int .i64 x.1 :: x.2.map bv
def pendCells (ws : List (Nat × List UInt8)) : List Value := (ws.map wcells).flatten
/-- A slice that owns its cells (nil, or the head of a row that is not frozen). -/
abbrev Row (w : World) (t : TypeId) (size : Nat) (v : Value) (n : Nat) (cs : List Value) : Prop := w.ownsRow 0 t size v n cs
theorem Row.form {w : World} {t : TypeId} {size : Nat} {v : Value} {n : Nat} {cs : List Value} (h : Row w t size v n cs) : ∃ A c, v = .slice A n c ∧ n ≤ c ∧ c ≤ 9223372036854775807 := by
 obtain ⟨hl, ⟨rfl, rfl⟩ | ⟨g, cap, cur, rfl, _, _, hn, hm, _⟩⟩ := h
 ·exact ⟨none, 0, rfl, Nat.le_refl _, by omega⟩
 ·exact ⟨_, cap, rfl, hn, by unfold maxLen at hm; omega⟩
theorem Row.touch {S : List Nat} {w w' : World} {t : TypeId} {size : Nat} {v : Value} {n : Nat} {cs : List Value} (h : Row w t size v n cs) (k : Touch S w w') (hv : ∀ j, v.ownBlock = some j → j ∉ S) : Row w' t size v n cs := by
 refine ⟨h.1, ?_⟩
 rcases h.2 with hn | ⟨g, cap, cur, rfl, hb, hgg, rest⟩
 ·exact .inl hn
 ·exact .inr ⟨g, cap, cur, rfl, hb, (k.block g (World.ownsRow.lt h g rfl).2 (hv g rfl)).trans hgg, rest⟩
/-- Block d is a disk in the state D; F: all blocks that it takes up. -/
structure Dk (w : World) (d : Nat) (F : List Nat) (D : DS) (gv pv : Value) : Prop where
 blk : Blk w d 77 #[gv, pv, .int .i64 D.fuse, .bool D.failed]
 pages : Row w 79 128 gv D.pages.length (pcells D.pages)
 pend : Row w 81 129 pv D.pend.length (pendCells D.pend)
 inF : d ∈ F
 gF : ∀ j, gv.ownBlock = some j → j ∈ F ∧ j ≠ d
 pF : ∀ j, pv.ownBlock = some j → j ∈ F ∧ j ≠ d ∧ gv.ownBlock ≠ some j
 lt : ∀ j ∈ F, j < w.heap.size
 ok : D.Ok
theorem Dk.touch {S F : List Nat} {w w' : World} {d : Nat} {D : DS} {gv pv : Value} (h : Dk w d F D gv pv) (k : Touch S w w') (hS : ∀ j ∈ F, j ∉ S) : Dk w' d F D gv pv :=
 ⟨h.blk.touch k (hS d h.inF), h.pages.touch k fun j hj => hS j (h.gF j hj).1, h.pend.touch k fun j hj => hS j (h.pF j hj).1, h.inF, h.gF, h.pF, fun j hj => Nat.lt_of_lt_of_le (h.lt j hj) k.size, h.ok⟩
theorem Dk.step {F : List Nat} {w w' : World} {d : Nat} {D : DS} {gv pv : Value} (h : Dk w d F D gv pv) (hb : Below w.heap.size w w') : Dk w' d F D gv pv := h.touch (Touch.below hb []) (by simp)
theorem Dk.cells {F : List Nat} {w : World} {d : Nat} {D : DS} {gv pv : Value} (h : Dk w d F D gv pv) :
 w.cell? ⟨d, 0, none⟩ = some gv ∧ w.cell? ⟨d, 1, none⟩ = some pv ∧ w.cell? ⟨d, 2, none⟩ = some (.int .i64 D.fuse) ∧ w.cell? ⟨d, 3, none⟩ = some (.bool D.failed) ∧
 w.frozen? ⟨d, 0, none⟩ = false ∧ w.frozen? ⟨d, 1, none⟩ = false ∧ w.frozen? ⟨d, 2, none⟩ = false ∧ w.frozen? ⟨d, 3, none⟩ = false :=
 ⟨h.blk.cell 0, h.blk.cell 1, h.blk.cell 2, h.blk.cell 3, h.blk.froz 0, h.blk.froz 1, h.blk.froz 2, h.blk.froz 3⟩
/-- The disk is in the state D. -/
def Disk (w : World) (d : Nat) (F : List Nat) (D : DS) : Prop := ∃ gv pv, Dk w d F D gv pv
theorem Disk.touch {S F : List Nat} {w w' : World} {d : Nat} {D : DS} (h : Disk w d F D) (k : Touch S w w') (hS : ∀ j ∈ F, j ∉ S) : Disk w' d F D := by obtain ⟨gv, pv, h⟩ := h; exact ⟨gv, pv, h.touch k hS⟩
theorem Disk.step {F : List Nat} {w w' : World} {d : Nat} {D : DS} (h : Disk w d F D) (hb : Below w.heap.size w w') : Disk w' d F D := by obtain ⟨gv, pv, h⟩ := h; exact ⟨gv, pv, h.step hb⟩
theorem Disk.ok {F : List Nat} {w : World} {d : Nat} {D : DS} (h : Disk w d F D) : D.Ok := by obtain ⟨gv, pv, h⟩ := h; exact h.ok
/-- A call that leaves the disk in the state D and turns nothing else that lay there. -/
def Does (w : World) (d : Nat) (F : List Nat) (D : DS) (v : Value) (e : Ending) (w' : World) : Prop :=
 e = .returned v ∧ ∃ F', Disk w' d F' D ∧ Touch F w w' ∧ ∀ j ∈ F', j ∈ F ∨ w.heap.size ≤ j
/-- One field of the disk is stored to. -/
theorem Dk.fuse {F : List Nat} {w : World} {d : Nat} {D : DS} {gv pv : Value} (h : Dk w d F D gv pv) (z : Int) (hz : -1 ≤ z ∧ z ≤ 9223372036854775807) : Dk (w.setCell ⟨d, 2, none⟩ (.int .i64 z)) d F { D with fuse := z } gv pv := by
 have k : Touch [d] w (w.setCell ⟨d, 2, none⟩ (.int .i64 z)) := (Touch.refl [d] w).set (by simp) 2 _
 exact ⟨h.blk.put 2 _, h.pages.touch k fun j hj => by simp; exact (h.gF j hj).2, h.pend.touch k fun j hj => by simp; exact (h.pF j hj).2.1, h.inF, h.gF, h.pF, fun j hj => Nat.lt_of_lt_of_le (h.lt j hj) k.size, ⟨h.ok.pages, h.ok.pend, hz⟩⟩
theorem Dk.failed {F : List Nat} {w : World} {d : Nat} {D : DS} {gv pv : Value} (h : Dk w d F D gv pv) (b : Bool) : Dk (w.setCell ⟨d, 3, none⟩ (.bool b)) d F { D with failed := b } gv pv := by
 have k : Touch [d] w (w.setCell ⟨d, 3, none⟩ (.bool b)) := (Touch.refl [d] w).set (by simp) 3 _
 exact ⟨h.blk.put 3 _, h.pages.touch k fun j hj => by simp; exact (h.gF j hj).2, h.pend.touch k fun j hj => by simp; exact (h.pF j hj).2.1, h.inF, h.gF, h.pF, fun j hj => Nat.lt_of_lt_of_le (h.lt j hj) k.size, ⟨h.ok.pages, h.ok.pend, h.ok.fuse⟩⟩
theorem touch_set {F : List Nat} {w : World} {d : Nat} (h : d ∈ F) (o : Nat) (v : Value) : Touch F w (w.setCell ⟨d, o, none⟩ v) := (Touch.refl F w).set (.inl h) o v
set_option maxHeartbeats 1000000 in
theorem pages_c (d : Nat) (F : List Nat) (D : DS) (w : World) (h : Disk w d F D) :
 Calls Tryz.prog 33 #[.pointer (some ⟨d, 0, none⟩)] w fun e w' => e = .returned (.int .i64 D.pages.length) ∧ w = w' := by
 obtain ⟨gv, pv, h⟩ := h
 obtain ⟨c0, c1, c2, c3, f0, f1, f2, f3⟩ := h.cells
 obtain ⟨A, c, rfl, _, _⟩ := h.pages.form
 clear h
 generalize D.pages.length = n at *
 go_enter Tryz.func33, Tryz.ntmps33
 go_wp2_with fail
 go_ret
 exact ⟨rfl, rfl⟩
set_option maxHeartbeats 1000000 in
theorem pending_c (d : Nat) (F : List Nat) (D : DS) (w : World) (h : Disk w d F D) :
 Calls Tryz.prog 60 #[.pointer (some ⟨d, 0, none⟩)] w fun e w' => e = .returned (.int .i64 D.pend.length) ∧ w = w' := by
 obtain ⟨gv, pv, h⟩ := h
 obtain ⟨c0, c1, c2, c3, f0, f1, f2, f3⟩ := h.cells
 obtain ⟨A, c, rfl, _, _⟩ := h.pend.form
 clear h
 generalize D.pend.length = n at *
 go_enter Tryz.func60, Tryz.ntmps60
 go_wp2_with fail
 go_ret
 exact ⟨rfl, rfl⟩
set_option maxHeartbeats 1000000 in
theorem failed_c (d : Nat) (F : List Nat) (D : DS) (w : World) (h : Disk w d F D) :
 Calls Tryz.prog 59 #[.pointer (some ⟨d, 0, none⟩)] w fun e w' => e = .returned (.bool D.failed) ∧ w = w' := by
 obtain ⟨gv, pv, h⟩ := h
 obtain ⟨c0, c1, c2, c3, f0, f1, f2, f3⟩ := h.cells
 clear h
 generalize D.failed = n at *
 go_enter Tryz.func59, Tryz.ntmps59
 go_wp2_with fail
 go_ret
 exact ⟨rfl, rfl⟩
set_option maxHeartbeats 1000000 in
theorem there_c (d : Nat) (F : List Nat) (D : DS) (p : Int) (w : World) (h : Disk w d F D) :
 Calls Tryz.prog 38 #[.pointer (some ⟨d, 0, none⟩), .int .i64 p] w fun e w' => e = .returned (.bool (thereB D p)) ∧ w = w' := by
 obtain ⟨gv, pv, h⟩ := h
 obtain ⟨c0, c1, c2, c3, f0, f1, f2, f3⟩ := h.cells
 obtain ⟨A, c, rfl, _, _⟩ := h.pages.form
 unfold thereB
 clear h
 generalize D.pages.length = n at *
 by_cases hp : 0 ≤ p
 ·have hd : decide (0 ≤ p) = true := by simpa using hp
  rw [hd, Bool.true_and]
  by_cases hn : p < n
  ·have hd2 : decide (p < (n : Int)) = true := by simpa using hn
   rw [hd2]
   go_enter Tryz.func38, Tryz.ntmps38
   go_wp2_with fail
   go_ret
   exact ⟨rfl, rfl⟩
  ·have hd2 : decide (p < (n : Int)) = false := by simpa using hn
   rw [hd2]
   go_enter Tryz.func38, Tryz.ntmps38
   go_wp2_with fail
   go_ret
   exact ⟨rfl, rfl⟩
 ·have hd : decide (0 ≤ p) = false := by simpa using hp
  rw [hd, Bool.false_and]
  go_enter Tryz.func38, Tryz.ntmps38
  go_wp2_with fail
  go_ret
  exact ⟨rfl, rfl⟩
set_option maxHeartbeats 1000000 in
theorem burn_c (d : Nat) (F : List Nat) (D : DS) (w : World) (h : Disk w d F D) :
 Calls Tryz.prog 39 #[.pointer (some ⟨d, 0, none⟩)] w (Does w d F (dBurn D).1 (.int .i64 (dBurn D).2)) := by
 obtain ⟨gv, pv, h⟩ := h
 obtain ⟨c0, c1, c2, c3, f0, f1, f2, f3⟩ := h.cells
 have hz := h.ok.fuse
 have H := hide h
 clear h
 by_cases h0 : D.fuse = 0
 ·have hr : dBurn D = ({ D with failed := true }, 10) := by unfold dBurn; rw [if_pos h0]
  rw [hr]
  rw [h0] at c2
  clear hr h0 hz
  generalize D.failed = b at c3
  go_enter Tryz.func39, Tryz.ntmps39
  go_wp2_with fail
  go_ret
  exact ⟨rfl, F, ⟨gv, pv, H.out.failed true⟩, touch_set H.out.inF 3 _, fun j hj => .inl hj⟩
 ·by_cases h1 : 0 < D.fuse
  ·have hr : dBurn D = ({ D with fuse := D.fuse - 1 }, 0) := by unfold dBurn; rw [if_neg h0, if_pos h1]
   rw [hr]
   have HF := hide (H.out.fuse (D.fuse - 1) (by omega))
   generalize hzz : D.fuse = z at *
   clear hr hzz
   have hz0 : (z == 0) = false := by simpa using h0
   go_enter Tryz.func39, Tryz.ntmps39
   go_wp2_with fail
   go_ret
   exact ⟨rfl, F, ⟨gv, pv, HF.out⟩, touch_set H.out.inF 2 _, fun j hj => .inl hj⟩
  ·have hr : dBurn D = (D, 0) := by unfold dBurn; rw [if_neg h0, if_neg h1]
   rw [hr]
   generalize hzz : D.fuse = z at *
   clear hr hzz
   have hz0 : (z == 0) = false := by simpa using h0
   go_enter Tryz.func39, Tryz.ntmps39
   go_wp2_with fail
   go_ret
   exact ⟨rfl, F, ⟨gv, pv, H.out⟩, Touch.refl _ _, fun j hj => .inl hj⟩
end
section
open Go.ChangeShapes Go.WideShapes Go.ChangeAt Go.RowKit
set_option maxHeartbeats 1000000 in
theorem failAfter_c (d : Nat) (F : List Nat) (D : DS) (n : Int) (hn : n ≤ 9223372036854775807) (w : World) (h : Disk w d F D) :
 Calls Tryz.prog 29 #[.pointer (some ⟨d, 0, none⟩), .int .i64 n] w (Does w d F (dFailAfter D n) (.tuple #[])) := by
 obtain ⟨gv, pv, h⟩ := h
 obtain ⟨c0, c1, c2, c3, f0, f1, f2, f3⟩ := h.cells
 have H := hide h
 by_cases hle : -1 ≤ n
 ·have hr : dFailAfter D n = { D with fuse := n } := by unfold dFailAfter; rw [Int.max_eq_left hle]
  rw [hr]
  have HF := hide (h.fuse n ⟨hle, hn⟩)
  clear h hr
  go_enter Tryz.func29, Tryz.ntmps29
  go_wp2_with fail
  go_end0
  first | exact ⟨rfl, F, ⟨gv, pv, HF.out⟩, touch_set H.out.inF 2 _, fun j hj => .inl hj⟩ | (rw [Int.max_eq_left hle]; exact ⟨rfl, F, ⟨gv, pv, HF.out⟩, touch_set H.out.inF 2 _, fun j hj => .inl hj⟩)
 ·have hlt : n < -1 := by omega
  have hr : dFailAfter D n = { D with fuse := -1 } := by unfold dFailAfter; rw [Int.max_eq_right (by omega)]
  rw [hr]
  have HF := hide (h.fuse (-1) ⟨by omega, by omega⟩)
  clear h hr hle
  go_enter Tryz.func29, Tryz.ntmps29
  go_wp2_with fail
  go_end0
  first | exact ⟨rfl, F, ⟨gv, pv, HF.out⟩, touch_set H.out.inF 2 _, fun j hj => .inl hj⟩ | (rw [Int.max_eq_right (by omega)]; exact ⟨rfl, F, ⟨gv, pv, HF.out⟩, touch_set H.out.inF 2 _, fun j hj => .inl hj⟩)
theorem info_page : (Tryz.prog.info? 79).map (fun i => (i.zero, i.size, i.bytes)) = some (some (.agg (Array.replicate 128 (.int .u8 0))), 128, 128) := by kernel_rfl
/-- n zero pages in memory. -/
@[irreducible] def zp (n : Nat) : Array Value := Array.replicate (n * 128) (bv 0)
theorem flatten_rep (n m : Nat) (x : UInt8) : (List.replicate n (List.replicate m x)).flatten = List.replicate (n * m) x := by
 induction n with
 | zero => simp
 | succ n ih => rw [List.replicate_succ, List.flatten_cons, ih, Nat.succ_mul, Nat.add_comm, List.replicate_append_replicate]
theorem zp_list (n : Nat) : (zp n).toList = pcells (List.replicate n (List.replicate 128 0)) := by
 unfold zp pcells; rw [flatten_rep]; simp
theorem zp_made (n : Nat) : madeCells (Value.agg (Array.replicate 128 (.int .u8 0))).cells (n * 128) = zp n := by
 have hc : (Value.agg (Array.replicate 128 (.int .u8 0))).cells = Array.replicate 128 (.int .u8 0) := by kernel_rfl
 rw [hc]
 unfold zp madeCells
 apply Array.ext_getElem?
 intro i
 by_cases hi : i < n * 128
 ·have h2 : ((Array.replicate 128 (Value.int .u8 0))[i % 128]!) = .int .u8 0 := by rw [getElem!_pos _ _ (by simp; omega)]; simp
  simp [hi, bv, u8, h2]
 ·simp [hi]
theorem run_make_pages (n : Nat) (hn : n ≤ 4096) (W : World) : (Instr.makeSlice 74 (.int .i64 (n : Int)) (.int .i64 (n : Int))).run Tryz.prog W = .ok (.slice (some ⟨W.heap.size, 0, none⟩) n n) (W.alloc (.cells (zp n) 79)) := by
 obtain ⟨i0, hi0, hz0, hz1, hz2⟩ := info_parts info_page
 have h := run_make (P := Tryz.prog) W 74 79 i0 _ Tryz.underlying74 hi0 hz0 .i64 .i64 (n : Int) (n : Int) (by omega) (by omega) (by rw [hz2]; omega) (by omega)
 rw [hz1] at h
 simp only [Int.toNat_natCast] at h
 rw [zp_made] at h
 exact h
/-- A new disk, which lies in new memory. -/
def NewDk (w : World) (D : DS) (e : Ending) (w' : World) : Prop :=
 ∃ d F, e = .returned (.tuple #[.pointer (some ⟨d, 0, none⟩), .int .i64 0]) ∧ Disk w' d F D ∧ Below w.heap.size w w' ∧ ∀ j ∈ F, w.heap.size ≤ j
theorem row_new (w : World) (n : Nat) (hn : n ≤ 4096) : Row (w.alloc (.cells (zp n) 79)) 79 128 (.slice (some ⟨w.heap.size, 0, none⟩) n n) n (pcells (List.replicate n (List.replicate 128 0))) := by
 have hl : (zp n).toList.length = n * 128 := by unfold zp; simp
 refine ⟨by rw [← zp_list, hl], .inr ⟨w.heap.size, n, zp n, rfl, Nat.zero_le _, heap_alloc_new w _, Nat.le_refl _, by unfold maxLen; omega, by rw [← Array.length_toList, hl], ?_⟩⟩
 rw [← zp_list, List.take_of_length_le (by omega)]
set_option maxHeartbeats 1000000 in
theorem new_c (n : Nat) (h1 : 1 ≤ n) (hn : n ≤ 4096) (w : World) :
 Calls Tryz.prog 9 #[.int .i64 n] w (NewDk w (dNew n)) := by
 have hm := run_make_pages n hn
 go_enter Tryz.func9, Tryz.ntmps9
 go_wp2_with fail
 clear hm
 go_ret2
 have hr := row_new w n hn
 have k : Touch [] (w.alloc (.cells (zp n) 79)) ((w.alloc (.cells (zp n) 79)).alloc (.cells #[.slice (some ⟨w.heap.size, 0, none⟩) n n, .slice none 0 0, .int .i64 (-1), .bool false] 77)) := (Touch.refl _ _).alloc _
 refine ⟨w.heap.size + 1, [w.heap.size + 1, w.heap.size], rfl, ⟨.slice (some ⟨w.heap.size, 0, none⟩) n n, .slice none 0 0, ?_, ?_, ?_, ?_, ?_, ?_, ?_, dNew_ok n⟩, ((Below.refl _ _).alloc (Nat.le_refl _) _).alloc (by simp) _, ?_⟩
 ·have := Blk.new (w.alloc (.cells (zp n) 79)) 77 #[.slice (some ⟨w.heap.size, 0, none⟩) n n, .slice none 0 0, .int .i64 (-1), .bool false]
  simp only [World.size_alloc] at this; exact this
 ·have := Row.touch hr k (by simp)
  simpa [dNew] using this
 ·exact World.ownsRow_nil _ _ _ _
 ·simp
 ·intro j hj
  have e : w.heap.size = j := by injection hj
  subst e
  exact ⟨by simp, by omega⟩
 ·intro j hj; cases hj
 ·intro j hj; simp at hj; simp; omega
 ·intro j hj; simp at hj; omega
end
end Go.Proofs.YtpadgkkeihhneaaGreat
