/- What a call may turn: a list of blocks. -/
import Derived.Test.YtpadgkkeihhneaaPart01
import Derived.Deep.AppendLies
import Derived.WalkLawsBesides
import Derived.Test.YtpadgkkeihhneaaPart02
import Derived.Lib.MinMax
import Derived.Deep.MidRow
import Derived.Deep.Upon
import Derived.Lib.EndianMore
import Derived.Great.Walk
import Derived.Great.BuildSlice
namespace Go.Proofs.Ytpadgkkeihhneaa
set_option maxRecDepth 100000
set_option linter.unusedSimpArgs false
set_option linter.unusedVariables false
open Go.ChangeShapes Go.WideShapes Go.ChangeAt Go.RowKit
set_option linter.unusedVariables false

/-- Of what lay there, at most the blocks of S have turned. -/
structure Touch (S : List Nat) (w w' : World) : Prop where
  os : w'.os = w.os
  tape : w'.tape = w.tape
  output : w'.output = w.output
  size : w.heap.size ≤ w'.heap.size
  block : ∀ k, k < w.heap.size → k ∉ S → w'.heap[k]? = w.heap[k]?

theorem Touch.refl (S : List Nat) (w : World) : Touch S w w := ⟨rfl, rfl, rfl, Nat.le_refl _, fun _ _ _ => rfl⟩
theorem Touch.next {S T : List Nat} {w w1 w2 : World} (h : Touch S w w1) (k : Touch T w1 w2) (hT : ∀ t ∈ T, t ∈ S ∨ w.heap.size ≤ t) : Touch S w w2 := by
  refine ⟨k.os.trans h.os, k.tape.trans h.tape, k.output.trans h.output, Nat.le_trans h.size k.size, fun i hi hne => ?_⟩
  rw [k.block i (Nat.lt_of_lt_of_le hi h.size) ?_, h.block i hi hne]
  intro hm
  rcases hT i hm with h1 | h1
  · exact hne h1
  · omega
theorem Touch.trans {S : List Nat} {w w1 w2 : World} (h : Touch S w w1) (k : Touch S w1 w2) : Touch S w w2 := h.next k fun _ ht => .inl ht
theorem Touch.mono {S T : List Nat} {w w' : World} (h : Touch S w w') (hs : ∀ s ∈ S, s ∈ T ∨ w.heap.size ≤ s) : Touch T w w' :=
  (Touch.refl T w).next h hs
theorem Touch.grown {w w' : World} {row : Option Nat} (h : w.grownBy w' row) : Touch row.toList w w' := ⟨h.os, h.tape, h.output, h.size, fun k hk hne => h.block k hk (by intro e; rw [← e] at hne; simp at hne)⟩
theorem Touch.one {w w' : World} {g : Nat} (h : w.grownBy w' (some g)) : Touch [g] w w' := Touch.grown h
theorem Touch.of_one {w w' : World} {g : Nat} (h : Touch [g] w w') : w.grownBy w' (some g) := ⟨h.os, h.tape, h.output, h.size, fun k hk hne => h.block k hk (by intro e; simp at e; exact hne (by rw [e]))⟩
theorem Touch.below {w w' : World} (h : Below w.heap.size w w') (S : List Nat) : Touch S w w' := ⟨h.os, h.tape, h.output, h.size, fun k hk _ => h.block k hk⟩
theorem Touch.to_below {S : List Nat} {w w' : World} {B : Nat} (h : Touch S w w') (hS : ∀ s ∈ S, B ≤ s) (hB : B ≤ w.heap.size) : Below B w w' :=
  ⟨h.os, h.tape, h.output, h.size, fun k hk => h.block k (Nat.lt_of_lt_of_le hk hB) fun hm => by have := hS k hm; omega⟩
theorem Below.touch {S : List Nat} {a w w' : World} {B : Nat} (hb : Below B a w) (h : Touch S w w') (hS : ∀ s ∈ S, B ≤ s) (hB : B ≤ w.heap.size) : Below B a w' := hb.trans (h.to_below hS hB)
theorem Touch.set {S : List Nat} {a w : World} {g : Nat} (h : Touch S a w) (hg : g ∈ S ∨ a.heap.size ≤ g) (o : Nat) (v : Value) : Touch S a (w.setCell ⟨g, o, none⟩ v) :=
  h.next (Touch.one (grown_set (grown_refl w (some g)) o v)) (by intro t ht; simp at ht; subst ht; exact hg)
theorem Touch.alloc {S : List Nat} {a w : World} (h : Touch S a w) (o : Obj) : Touch S a (w.alloc o) :=
  h.next (T := []) (Touch.grown (grown_alloc (grown_refl w none) o)) (by simp)
theorem Touch.drew {S : List Nat} {a w : World} (h : Touch S a w) : Touch S a w.drew := ⟨h.os, h.tape, h.output, h.size, h.block⟩
theorem Touch.drewN {S : List Nat} {a w : World} (h : Touch S a w) (n : Nat) : Touch S a (w.drewN n) := ⟨h.os, h.tape, h.output, h.size, h.block⟩
theorem Touch.step {S : List Nat} {a w w' : World} (h : Touch S a w) (hb : Below w.heap.size w w') : Touch S a w' := h.next (Touch.below hb []) (by simp)

theorem Blk.touch {S : List Nat} {w w' : World} {g : Nat} {t : TypeId} {cs : Array Value} (h : Blk w g t cs) (k : Touch S w w') (hg : g ∉ S) : Blk w' g t cs := (k.block g h.lt hg).trans h
theorem Bs.touch {S : List Nat} {w w' : World} {v : Value} {l : List UInt8} (h : Bs w v l) (k : Touch S w w') (hv : ∀ j, v.ownBlock = some j → j ∉ S) : Bs w' v l :=
  h.keep k.size fun p hp e => World.cell?_of_block (k.block p.block hp (hv _ e))
theorem Bs.empty {w w' : World} {v : Value} (h : Bs w v []) : Bs w' v [] := by
  obtain ⟨A, c, hv, h1, h2, _⟩ := h
  exact ⟨A, c, hv, h1, h2, fun h => absurd h (by simp)⟩
theorem Bs.touchN {S : List Nat} {w w' : World} {v : Value} {l : List UInt8} (h : Bs w v l) (k : Touch S w w') (hv : l ≠ [] → ∀ j, v.ownBlock = some j → j ∉ S) : Bs w' v l := by
  by_cases hl : l = []
  · subst hl; exact h.empty
  · exact h.touch k (hv hl)
theorem Ow.touch {S : List Nat} {w w' : World} {base : Nat} {v : Value} {l : List UInt8} (h : Ow w base v l) (k : Touch S w w') (hv : ∀ j, v.ownBlock = some j → j ∉ S) : Ow w' base v l := by
  refine ⟨h.1, ?_⟩
  rcases h.2 with hn | ⟨g, cap, cur, rfl, hb, hgg, rest⟩
  · exact .inl hn
  · exact .inr ⟨g, cap, cur, rfl, hb, (k.block g (h.lt g rfl).2 (hv g rfl)).trans hgg, rest⟩
/-- A slice's shape, its length behind a letter. -/
theorem Bs.formN {w : World} {v : Value} {l : List UInt8} (h : Bs w v l) : ∃ A m c, v = .slice A m c ∧ Hid (m = l.length) ∧ m ≤ c ∧ c ≤ 9223372036854775807 := by
  obtain ⟨A, c, hv, h1, h2⟩ := h.form
  exact ⟨A, l.length, c, hv, rfl, h1, h2⟩
theorem Ow.formN {w : World} {base : Nat} {v : Value} {l : List UInt8} (h : Ow w base v l) : ∃ A m c, v = .slice A m c ∧ Hid (m = l.length) ∧ m ≤ c ∧ c ≤ 9223372036854775807 := h.bs.formN
theorem World.size_grow {S : List Nat} {w w' : World} (k : Touch S w w') : w.heap.size ≤ w'.heap.size := k.size
end Go.Proofs.Ytpadgkkeihhneaa
/- A disk in memory; the methods that look at it or turn one number. -/
namespace Go.Proofs.Ytpadgkkeihhneaa
set_option maxRecDepth 100000
set_option linter.unusedSimpArgs false
set_option linter.unusedVariables false
open Go.ChangeShapes Go.WideShapes Go.ChangeAt Go.RowKit
set_option linter.unusedVariables false

def pcells (ps : List (List UInt8)) : List Value := ps.flatten.map bv
def wcells (x : Nat × List UInt8) : List Value := .int .i64 x.1 :: x.2.map bv
def pendCells (ws : List (Nat × List UInt8)) : List Value := (ws.map wcells).flatten

/-- A slice that owns its cells (nil, or the head of a row that is not frozen). -/
abbrev Row (w : World) (t : TypeId) (size : Nat) (v : Value) (n : Nat) (cs : List Value) : Prop := w.ownsRow 0 t size v n cs
theorem Row.form {w : World} {t : TypeId} {size : Nat} {v : Value} {n : Nat} {cs : List Value} (h : Row w t size v n cs) : ∃ A c, v = .slice A n c ∧ n ≤ c ∧ c ≤ 9223372036854775807 := by
  obtain ⟨hl, ⟨rfl, rfl⟩ | ⟨g, cap, cur, rfl, _, _, hn, hm, _⟩⟩ := h
  · exact ⟨none, 0, rfl, Nat.le_refl _, by omega⟩
  · exact ⟨_, cap, rfl, hn, by unfold maxLen at hm; omega⟩
theorem Row.touch {S : List Nat} {w w' : World} {t : TypeId} {size : Nat} {v : Value} {n : Nat} {cs : List Value} (h : Row w t size v n cs) (k : Touch S w w') (hv : ∀ j, v.ownBlock = some j → j ∉ S) : Row w' t size v n cs := by
  refine ⟨h.1, ?_⟩
  rcases h.2 with hn | ⟨g, cap, cur, rfl, hb, hgg, rest⟩
  · exact .inl hn
  · exact .inr ⟨g, cap, cur, rfl, hb, (k.block g (World.ownsRow.lt h g rfl).2 (hv g rfl)).trans hgg, rest⟩

/-- Block d is a disk in the state D; F: all blocks that it takes up. -/
structure Dk (w : World) (d : Nat) (F : List Nat) (D : DS) (gv pv : Value) : Prop where
  blk : Blk w d 48 #[gv, pv, .int .i64 D.fuse, .bool D.failed]
  pages : Row w 79 128 gv D.pages.length (pcells D.pages)
  pend : Row w 81 129 pv D.pend.length (pendCells D.pend)
  inF : d ∈ F
  gF : ∀ j, gv.ownBlock = some j → j ∈ F ∧ j ≠ d
  pF : ∀ j, pv.ownBlock = some j → j ∈ F ∧ j ≠ d ∧ gv.ownBlock ≠ some j
  lt : ∀ j ∈ F, j < w.heap.size
  ok : D.Ok
theorem Dk.touch {S F : List Nat} {w w' : World} {d : Nat} {D : DS} {gv pv : Value} (h : Dk w d F D gv pv) (k : Touch S w w') (hS : ∀ j ∈ F, j ∉ S) : Dk w' d F D gv pv :=
  ⟨h.blk.touch k (hS d h.inF), h.pages.touch k fun j hj => hS j (h.gF j hj).1, h.pend.touch k fun j hj => hS j (h.pF j hj).1, h.inF, h.gF, h.pF, fun j hj => Nat.lt_of_lt_of_le (h.lt j hj) k.size, h.ok⟩
theorem Dk.step {F : List Nat} {w w' : World} {d : Nat} {D : DS} {gv pv : Value} (h : Dk w d F D gv pv) (hb : Below w.heap.size w w') : Dk w' d F D gv pv := h.touch (Touch.below hb []) (by simp)
theorem Dk.cells {F : List Nat} {w : World} {d : Nat} {D : DS} {gv pv : Value} (h : Dk w d F D gv pv) :
    w.cell? ⟨d, 0, none⟩ = some gv ∧ w.cell? ⟨d, 1, none⟩ = some pv ∧ w.cell? ⟨d, 2, none⟩ = some (.int .i64 D.fuse) ∧ w.cell? ⟨d, 3, none⟩ = some (.bool D.failed) ∧
    w.frozen? ⟨d, 0, none⟩ = false ∧ w.frozen? ⟨d, 1, none⟩ = false ∧ w.frozen? ⟨d, 2, none⟩ = false ∧ w.frozen? ⟨d, 3, none⟩ = false :=
  ⟨h.blk.cell 0, h.blk.cell 1, h.blk.cell 2, h.blk.cell 3, h.blk.froz 0, h.blk.froz 1, h.blk.froz 2, h.blk.froz 3⟩
/-- The disk is in the state D. -/
def Disk (w : World) (d : Nat) (F : List Nat) (D : DS) : Prop := ∃ gv pv, Dk w d F D gv pv
theorem Disk.touch {S F : List Nat} {w w' : World} {d : Nat} {D : DS} (h : Disk w d F D) (k : Touch S w w') (hS : ∀ j ∈ F, j ∉ S) : Disk w' d F D := by obtain ⟨gv, pv, h⟩ := h; exact ⟨gv, pv, h.touch k hS⟩
theorem Disk.step {F : List Nat} {w w' : World} {d : Nat} {D : DS} (h : Disk w d F D) (hb : Below w.heap.size w w') : Disk w' d F D := by obtain ⟨gv, pv, h⟩ := h; exact ⟨gv, pv, h.step hb⟩
theorem Disk.ok {F : List Nat} {w : World} {d : Nat} {D : DS} (h : Disk w d F D) : D.Ok := by obtain ⟨gv, pv, h⟩ := h; exact h.ok
/-- A call that leaves the disk in the state D and turns nothing else that lay there. -/
def Does (w : World) (d : Nat) (F : List Nat) (D : DS) (v : Value) (e : Ending) (w' : World) : Prop :=
  e = .returned v ∧ ∃ F', Disk w' d F' D ∧ Touch F w w' ∧ ∀ j ∈ F', j ∈ F ∨ w.heap.size ≤ j

/-- One field of the disk is stored to. -/
theorem Dk.fuse {F : List Nat} {w : World} {d : Nat} {D : DS} {gv pv : Value} (h : Dk w d F D gv pv) (z : Int) (hz : -1 ≤ z ∧ z ≤ 9223372036854775807) : Dk (w.setCell ⟨d, 2, none⟩ (.int .i64 z)) d F { D with fuse := z } gv pv := by
  have k : Touch [d] w (w.setCell ⟨d, 2, none⟩ (.int .i64 z)) := (Touch.refl [d] w).set (by simp) 2 _
  exact ⟨h.blk.put 2 _, h.pages.touch k fun j hj => by simp; exact (h.gF j hj).2, h.pend.touch k fun j hj => by simp; exact (h.pF j hj).2.1, h.inF, h.gF, h.pF, fun j hj => Nat.lt_of_lt_of_le (h.lt j hj) k.size, ⟨h.ok.pages, h.ok.pend, hz⟩⟩
theorem Dk.failed {F : List Nat} {w : World} {d : Nat} {D : DS} {gv pv : Value} (h : Dk w d F D gv pv) (b : Bool) : Dk (w.setCell ⟨d, 3, none⟩ (.bool b)) d F { D with failed := b } gv pv := by
  have k : Touch [d] w (w.setCell ⟨d, 3, none⟩ (.bool b)) := (Touch.refl [d] w).set (by simp) 3 _
  exact ⟨h.blk.put 3 _, h.pages.touch k fun j hj => by simp; exact (h.gF j hj).2, h.pend.touch k fun j hj => by simp; exact (h.pF j hj).2.1, h.inF, h.gF, h.pF, fun j hj => Nat.lt_of_lt_of_le (h.lt j hj) k.size, ⟨h.ok.pages, h.ok.pend, h.ok.fuse⟩⟩
theorem touch_set {F : List Nat} {w : World} {d : Nat} (h : d ∈ F) (o : Nat) (v : Value) : Touch F w (w.setCell ⟨d, o, none⟩ v) := (Touch.refl F w).set (.inl h) o v

set_option maxHeartbeats 1000000 in
theorem pages_c (d : Nat) (F : List Nat) (D : DS) (w : World) (h : Disk w d F D) :
    Calls Try.prog 16 #[.pointer (some ⟨d, 0, none⟩)] w fun e w' => e = .returned (.int .i64 D.pages.length) ∧ w = w' := by
  obtain ⟨gv, pv, h⟩ := h
  obtain ⟨c0, c1, c2, c3, f0, f1, f2, f3⟩ := h.cells
  obtain ⟨A, c, rfl, _, _⟩ := h.pages.form
  clear h
  generalize D.pages.length = n at *
  go_enter Try.func16, Try.ntmps16
  go_wp2_with fail
  go_ret
  exact ⟨rfl, rfl⟩
set_option maxHeartbeats 1000000 in
theorem there_c (d : Nat) (F : List Nat) (D : DS) (p : Int) (w : World) (h : Disk w d F D) :
    Calls Try.prog 40 #[.pointer (some ⟨d, 0, none⟩), .int .i64 p] w fun e w' => e = .returned (.bool (thereB D p)) ∧ w = w' := by
  obtain ⟨gv, pv, h⟩ := h
  obtain ⟨c0, c1, c2, c3, f0, f1, f2, f3⟩ := h.cells
  obtain ⟨A, c, rfl, _, _⟩ := h.pages.form
  unfold thereB
  clear h
  generalize D.pages.length = n at *
  by_cases hp : 0 ≤ p
  · have hd : decide (0 ≤ p) = true := by simpa using hp
    rw [hd, Bool.true_and]
    by_cases hn : p < n
    · have hd2 : decide (p < (n : Int)) = true := by simpa using hn
      rw [hd2]
      go_enter Try.func40, Try.ntmps40
      go_wp2_with fail
      go_ret
      exact ⟨rfl, rfl⟩
    · have hd2 : decide (p < (n : Int)) = false := by simpa using hn
      rw [hd2]
      go_enter Try.func40, Try.ntmps40
      go_wp2_with fail
      go_ret
      exact ⟨rfl, rfl⟩
  · have hd : decide (0 ≤ p) = false := by simpa using hp
    rw [hd, Bool.false_and]
    go_enter Try.func40, Try.ntmps40
    go_wp2_with fail
    go_ret
    exact ⟨rfl, rfl⟩
set_option maxHeartbeats 1000000 in
theorem burn_c (d : Nat) (F : List Nat) (D : DS) (w : World) (h : Disk w d F D) :
    Calls Try.prog 41 #[.pointer (some ⟨d, 0, none⟩)] w (Does w d F (dBurn D).1 (.int .i64 (dBurn D).2)) := by
  obtain ⟨gv, pv, h⟩ := h
  obtain ⟨c0, c1, c2, c3, f0, f1, f2, f3⟩ := h.cells
  have hz := h.ok.fuse
  have H := hide h
  clear h
  by_cases h0 : D.fuse = 0
  · have hr : dBurn D = ({ D with failed := true }, 10) := by unfold dBurn; rw [if_pos h0]
    rw [hr]
    rw [h0] at c2
    clear hr h0 hz
    generalize D.failed = b at c3
    go_enter Try.func41, Try.ntmps41
    go_wp2_with fail
    go_ret
    exact ⟨rfl, F, ⟨gv, pv, H.out.failed true⟩, touch_set H.out.inF 3 _, fun j hj => .inl hj⟩
  · by_cases h1 : 0 < D.fuse
    · have hr : dBurn D = ({ D with fuse := D.fuse - 1 }, 0) := by unfold dBurn; rw [if_neg h0, if_pos h1]
      rw [hr]
      have HF := hide (H.out.fuse (D.fuse - 1) (by omega))
      generalize hzz : D.fuse = z at *
      clear hr hzz
      have hz0 : (z == 0) = false := by simpa using h0
      go_enter Try.func41, Try.ntmps41
      go_wp2_with fail
      go_ret
      exact ⟨rfl, F, ⟨gv, pv, HF.out⟩, touch_set H.out.inF 2 _, fun j hj => .inl hj⟩
    · have hr : dBurn D = (D, 0) := by unfold dBurn; rw [if_neg h0, if_neg h1]
      rw [hr]
      generalize hzz : D.fuse = z at *
      clear hr hzz
      have hz0 : (z == 0) = false := by simpa using h0
      go_enter Try.func41, Try.ntmps41
      go_wp2_with fail
      go_ret
      exact ⟨rfl, F, ⟨gv, pv, H.out⟩, Touch.refl _ _, fun j hj => .inl hj⟩
end Go.Proofs.Ytpadgkkeihhneaa
/- FailAfter, New. -/
namespace Go.Proofs.Ytpadgkkeihhneaa
set_option maxRecDepth 100000
set_option linter.unusedSimpArgs false
set_option linter.unusedVariables false
open Go.ChangeShapes Go.WideShapes Go.ChangeAt Go.RowKit
set_option linter.unusedVariables false

theorem info_page : (Try.prog.info? 79).map (fun i => (i.zero, i.size, i.bytes)) = some (some (.agg (Array.replicate 128 (.int .u8 0))), 128, 128) := by kernel_rfl
/-- n zero pages in memory. -/
@[irreducible] def zp (n : Nat) : Array Value := Array.replicate (n * 128) (bv 0)
theorem flatten_rep (n m : Nat) (x : UInt8) : (List.replicate n (List.replicate m x)).flatten = List.replicate (n * m) x := by
  induction n with
  | zero => simp
  | succ n ih => rw [List.replicate_succ, List.flatten_cons, ih, Nat.succ_mul, Nat.add_comm, List.replicate_append_replicate]
theorem zp_list (n : Nat) : (zp n).toList = pcells (List.replicate n (List.replicate 128 0)) := by
  unfold zp pcells; rw [flatten_rep]; simp
theorem zp_made (n : Nat) : madeCells (Value.agg (Array.replicate 128 (.int .u8 0))).cells (n * 128) = zp n := by
  have hc : (Value.agg (Array.replicate 128 (.int .u8 0))).cells = Array.replicate 128 (.int .u8 0) := by kernel_rfl
  rw [hc]
  unfold zp madeCells
  apply Array.ext_getElem?
  intro i
  by_cases hi : i < n * 128
  · have h2 : ((Array.replicate 128 (Value.int .u8 0))[i % 128]!) = .int .u8 0 := by rw [getElem!_pos _ _ (by simp; omega)]; simp
    simp [hi, bv, u8, h2]
  · simp [hi]
theorem run_make_pages (n : Nat) (hn : n ≤ 4096) (W : World) : (Instr.makeSlice 45 (.int .i64 (n : Int)) (.int .i64 (n : Int))).run Try.prog W = .ok (.slice (some ⟨W.heap.size, 0, none⟩) n n) (W.alloc (.cells (zp n) 79)) := by
  obtain ⟨i0, hi0, hz0, hz1, hz2⟩ := info_parts info_page
  have h := run_make (P := Try.prog) W 45 79 i0 _ Try.underlying45 hi0 hz0 .i64 .i64 (n : Int) (n : Int) (by omega) (by omega) (by rw [hz2]; omega) (by omega)
  rw [hz1] at h
  simp only [Int.toNat_natCast] at h
  rw [zp_made] at h
  exact h

/-- A new disk, which lies in new memory. -/
def NewDk (w : World) (D : DS) (e : Ending) (w' : World) : Prop :=
  ∃ d F, e = .returned (.tuple #[.pointer (some ⟨d, 0, none⟩), .int .i64 0]) ∧ Disk w' d F D ∧ Below w.heap.size w w' ∧ ∀ j ∈ F, w.heap.size ≤ j

theorem row_new (w : World) (n : Nat) (hn : n ≤ 4096) : Row (w.alloc (.cells (zp n) 79)) 79 128 (.slice (some ⟨w.heap.size, 0, none⟩) n n) n (pcells (List.replicate n (List.replicate 128 0))) := by
  have hl : (zp n).toList.length = n * 128 := by unfold zp; simp
  refine ⟨by rw [← zp_list, hl], .inr ⟨w.heap.size, n, zp n, rfl, Nat.zero_le _, heap_alloc_new w _, Nat.le_refl _, by unfold maxLen; omega, by rw [← Array.length_toList, hl], ?_⟩⟩
  rw [← zp_list, List.take_of_length_le (by omega)]
set_option maxHeartbeats 1000000 in
theorem new_c (n : Nat) (h1 : 1 ≤ n) (hn : n ≤ 4096) (w : World) :
    Calls Try.prog 5 #[.int .i64 n] w (NewDk w (dNew n)) := by
  have hm := run_make_pages n hn
  go_enter Try.func5, Try.ntmps5
  go_wp2_with fail
  clear hm
  go_ret2
  have hr := row_new w n hn
  have k : Touch [] (w.alloc (.cells (zp n) 79)) ((w.alloc (.cells (zp n) 79)).alloc (.cells #[.slice (some ⟨w.heap.size, 0, none⟩) n n, .slice none 0 0, .int .i64 (-1), .bool false] 48)) := (Touch.refl _ _).alloc _
  refine ⟨w.heap.size + 1, [w.heap.size + 1, w.heap.size], rfl, ⟨.slice (some ⟨w.heap.size, 0, none⟩) n n, .slice none 0 0, ?_, ?_, ?_, ?_, ?_, ?_, ?_, dNew_ok n⟩, ((Below.refl _ _).alloc (Nat.le_refl _) _).alloc (by simp) _, ?_⟩
  · have := Blk.new (w.alloc (.cells (zp n) 79)) 48 #[.slice (some ⟨w.heap.size, 0, none⟩) n n, .slice none 0 0, .int .i64 (-1), .bool false]
    simp only [World.size_alloc] at this; exact this
  · have := Row.touch hr k (by simp)
    simpa [dNew] using this
  · exact World.ownsRow_nil _ _ _ _
  · simp
  · intro j hj
    have e : w.heap.size = j := by injection hj
    subst e
    exact ⟨by simp, by omega⟩
  · intro j hj; cases hj
  · intro j hj; simp at hj; simp; omega
  · intro j hj; simp at hj; omega
set_option maxHeartbeats 1000000 in
theorem new_bad (n : Int) (h : n < 1 ∨ 4096 < n) (w : World) :
    Calls Try.prog 5 #[.int .i64 n] w fun e w' => e = .returned (.tuple #[.pointer none, .int .i64 2]) ∧ w = w' := by
  by_cases h1 : n < 1
  · go_enter Try.func5, Try.ntmps5
    go_wp2_with fail
    go_ret2
    exact ⟨rfl, rfl⟩
  · have h2 : 4096 < n := by omega
    have h3 : 1 ≤ n := by omega
    clear h h1
    go_enter Try.func5, Try.ntmps5
    go_wp2_with fail
    go_ret2
    exact ⟨rfl, rfl⟩
end Go.Proofs.Ytpadgkkeihhneaa
/- Small functions of the journal. -/
namespace Go.Proofs.Ytpadgkkeihhneaa
set_option maxRecDepth 100000
set_option linter.unusedSimpArgs false
set_option linter.unusedVariables false
open Go.ChangeShapes Go.WideShapes Go.ChangeAt Go.RowKit
set_option linter.unusedVariables false

theorem ret_i64e {a b : Int} (h : a = b) : Ending.returned (.int .i64 a) = .returned (.int .i64 b) := by rw [h]
set_option maxHeartbeats 1000000 in
theorem pages_fn (n : Nat) (hn : n ≤ 1000000000) (w : World) : Calls Try.prog 15 #[.int .i64 n] w fun e w' => e = .returned (.int .i64 (pagesN n)) ∧ w = w' := by
  obtain ⟨z, hz⟩ : ∃ z : Int, z = (n : Int) := ⟨_, rfl⟩
  have h0 : 0 ≤ z := by omega
  have h1 : z ≤ 1000000000 := by omega
  have HZ := hide hz
  rw [← hz]
  clear hz hn
  go_enter Try.func15, Try.ntmps15
  go_wp2_with fail
  go_ret
  refine ⟨ret_i64e ?_, rfl⟩
  have := HZ.out
  unfold pagesN
  omega
/-- The journal's block names its disk. -/
structure Hd (w : World) (g d : Nat) (F : List Nat) (D : DS) : Prop where
  cell : w.cell? ⟨g, 0, none⟩ = some (.pointer (some ⟨d, 0, none⟩))
  disk : Disk w d F D
structure DS.Sz (D : DS) : Prop where
  lo : 8 ≤ D.pages.length
  hi : D.pages.length ≤ 1000000
  pend : D.pend.length ≤ 100000
set_option maxHeartbeats 1000000 in
theorem half_c (g d : Nat) (F : List Nat) (D : DS) (w : World) (h : Hd w g d F D) (hs : D.Sz) :
    Calls Try.prog 20 #[.pointer (some ⟨g, 0, none⟩)] w fun e w' => e = .returned (.int .i64 (half D)) ∧ w = w' := by
  have hc := h.cell
  have HC := hide (pages_c d F D w h.disk)
  have hlo := hs.lo
  have hhi := hs.hi
  unfold half
  clear h hs
  generalize D.pages.length = n at *
  go_enter Try.func20, Try.ntmps20
  go_wp2_with fail
  refine HC.out.mono ?_
  rintro e w' ⟨rfl, rfl⟩
  go_wp2_with fail
  go_ret
  refine ⟨ret_i64e ?_, rfl⟩
  omega
set_option maxHeartbeats 1000000 in
theorem first_c (g d : Nat) (F : List Nat) (D : DS) (t : Nat) (ht : t ≤ 1099511629000) (w : World) (h : Hd w g d F D) (hs : D.Sz) :
    Calls Try.prog 35 #[.pointer (some ⟨g, 0, none⟩), .int .i64 t] w fun e w' => e = .returned (.int .i64 (first D t)) ∧ w = w' := by
  have HC := hide (half_c g d F D w h hs)
  have hhi : half D ≤ 1000000 := by have := hs.hi; unfold half; omega
  unfold first
  clear h hs
  generalize half D = n at *
  obtain ⟨r, hr⟩ : ∃ r, t % 2 = r := ⟨_, rfl⟩
  have hr2 : r < 2 := by omega
  have HR := hide hr
  rw [hr]
  clear hr
  go_enter Try.func35, Try.ntmps35
  go_wp2_with fail
  refine HC.out.mono ?_
  rintro e w' ⟨rfl, rfl⟩
  go_wp2_with fail
  go_ret
  refine ⟨ret_i64e ?_, rfl⟩
  have e : (t : Int) % 2 = r := by have := HR.out; omega
  rw [e]
  rcases (show r = 0 ∨ r = 1 by omega) with rfl | rfl
  · show wrap64 (2 + wrap64 (0 * (n : Int))) = _
    rw [Int.zero_mul]
    unfold wrap64; omega
  · show wrap64 (2 + wrap64 (1 * (n : Int))) = _
    rw [Int.one_mul]
    unfold wrap64; omega
end Go.Proofs.Ytpadgkkeihhneaa
/- Whole blocks: a struct that is stored to, loaded from, handed back; the world behind a store goes by a name of its own. -/
namespace Go.Proofs.Ytpadgkkeihhneaa
set_option maxRecDepth 100000
set_option linter.unusedSimpArgs false
set_option linter.unusedVariables false
open Go.ChangeShapes Go.WideShapes Go.ChangeAt Go.RowKit
set_option linter.unusedVariables false

theorem Blk.setCells {g : Nat} {t : TypeId} : ∀ (vs : List Value) (o : Nat) (w : World) (cs : Array Value), Blk w g t cs → o + vs.length ≤ cs.size →
    Blk (w.setCells g o vs) g t (cs.toList.take o ++ vs ++ cs.toList.drop (o + vs.length)).toArray
  | [], o, w, cs, h, hl => by
    have e : (cs.toList.take o ++ [] ++ cs.toList.drop (o + ([] : List Value).length)).toArray = cs := by simp
    rw [e]; exact h
  | v :: vs, o, w, cs, h, hl => by
    have h2 := Blk.setCells vs (o + 1) (w.setCell ⟨g, o, none⟩ v) _ (h.put o v) (by simp at hl ⊢; omega)
    have e : ((cs.setIfInBounds o v).toList.take (o + 1) ++ vs ++ (cs.setIfInBounds o v).toList.drop (o + 1 + vs.length)).toArray = (cs.toList.take o ++ (v :: vs) ++ cs.toList.drop (o + (v :: vs).length)).toArray := by
      congr 1
      have ho : o < cs.toList.length := by simp at hl ⊢; omega
      rw [Array.toList_setIfInBounds, List.drop_set_of_lt (by omega), List.take_succ_eq_append_getElem (by simpa using ho), List.take_set_of_le (Nat.le_refl _)]
      simp
      rw [show o + 1 + vs.length = o + (vs.length + 1) by omega]
    rw [e] at h2
    exact h2
theorem Blk.stored {w : World} {g : Nat} {t : TypeId} {old new : Array Value} (h : Blk w g t old) (hs : new.size = old.size) : Blk (w.setCells g 0 new.toList) g t new := by
  have h2 := Blk.setCells new.toList 0 w old h (by simp [hs])
  have e : (old.toList.take 0 ++ new.toList ++ old.toList.drop (0 + new.toList.length)).toArray = new := by
    rw [List.drop_eq_nil_of_le (by simp [hs])]
    simp
  rw [e] at h2
  exact h2
theorem touch_setCells (w : World) (g o : Nat) (vs : List Value) : Touch [g] w (w.setCells g o vs) ∧ (w.setCells g o vs).heap.size = w.heap.size := by
  induction vs generalizing w o with
  | nil => exact ⟨Touch.refl _ _, rfl⟩
  | cons v vs ih =>
    have h := ih (w.setCell ⟨g, o, none⟩ v) (o + 1)
    have k : Touch [g] w (w.setCell ⟨g, o, none⟩ v) := (Touch.refl [g] w).set (by simp) o v
    exact ⟨k.trans h.1, h.2.trans (by simp [World.setCell])⟩

/-- A struct is stored into a block that holds just it: the world behind goes by a name. -/
theorem wpList_store_blk {P : Program} {w : World} {ops : Array Oper} {rest : List Oper} {op : Oper} {a : Act} {Q : Exit → Act → World → Prop} (hgd : op.guard = none) (ty : TypeId) (x y : Operand) (ho : op.op = .store ty x y)
    (g : Nat) (t : TypeId) (old new : Array Value) (hx : a.eval x = .pointer (some ⟨g, 0, none⟩)) (hy : a.eval y = .agg new) (hb : Blk w g t old) (hs : new.size = old.size)
    (hi : (P.info? ty).map (·.size) = some new.size) (h1 : new.all (·.oneCell') = true)
    (h : ∀ w', Blk w' g t new → Touch [g] w w' → w'.heap.size = w.heap.size → wpList P ops Q rest (a.put op.dst undef) w') : wpList P ops Q (op :: rest) a w :=
  wpList_store_mid hgd ty x y ho g 0 new hx hy (hb.there hs) hi h1 (h _ (hb.stored hs) (touch_setCells w g 0 _).1 (touch_setCells w g 0 _).2)
theorem wpList_load_blk {P : Program} {w : World} {ops : Array Oper} {rest : List Oper} {o : Oper} {a : Act} {Q : Exit → Act → World → Prop} (hgd : o.guard = none) (ty : TypeId) (x : Operand) (ho : o.op = .load ty x)
    (g : Nat) (t : TypeId) (cs : Array Value) (d : TypeDesc) (hx : a.eval x = .pointer (some ⟨g, 0, none⟩)) (hb : Blk w g t cs)
    (hu : P.underlying ty = some d) (hd : (match d with | .struct _ | .array _ _ => true | _ => false) = true) (hi : (P.info? ty).map (·.size) = some cs.size)
    (h : wpList P ops Q rest (a.put o.dst (.agg cs)) w) : wpList P ops Q (o :: rest) a w := wpList_load_row hgd ty x ho g hx t cs (0, 0) d hb hu hd hi h
theorem step_store_blk {P : Program} {w : World} {ops : Array Oper} {o : Oper} {a : Act} {K : Act → World → Prop} {Q : Exit → Act → World → Prop} {E : Prop} (hgd : o.guard = none) (ty : TypeId) (x y : Operand) (ho : o.op = .store ty x y)
    (g : Nat) (t : TypeId) (old new : Array Value) (hx : a.eval x = .pointer (some ⟨g, 0, none⟩)) (hy : a.eval y = .agg new) (hb : Blk w g t old) (hs : new.size = old.size)
    (hi : (P.info? ty).map (·.size) = some new.size) (h1 : new.all (·.oneCell') = true)
    (h : ∀ w', Blk w' g t new → Touch [g] w w' → w'.heap.size = w.heap.size → K (a.put o.dst undef) w') :
    if Region.wanted o (yielded ops a.tmps) = true then Oper.wp P o a w K Q else E := by
  have hw : Region.wanted o (yielded ops a.tmps) = true := by simp [Region.wanted, hgd]
  rw [if_pos hw]
  exact wp_store_mid ty x y ho g 0 new hx hy (hb.there hs) hi h1 (h _ (hb.stored hs) (touch_setCells w g 0 _).1 (touch_setCells w g 0 _).2)

theorem results_row_tmp {P : Program} {fn : Func} {p u : Tmp} {ty : TypeId} (h : fn.results = #[.cell p ty, .tmp u]) (tmps : Array Value) (w : World) (g : Nat) (t : TypeId) (cs : Array Value) (fr : Nat × Nat) (d : TypeDesc) (v : Value)
    (hp : tmps.getD p undef = .pointer (some ⟨g, 0, none⟩)) (hv : tmps.getD u undef = v) (hg : w.heap[g]? = some (.cells cs t fr))
    (hu : P.underlying ty = some d) (hd : (match d with | .struct _ | .array _ _ => true | _ => false) = true) (hi : (P.info? ty).map (·.size) = some cs.size) :
    (results fn tmps).run P w = .ok (.tuple #[.agg cs, v]) w := by
  have hp' : tmps[p]?.getD undef = .pointer (some ⟨g, 0, none⟩) := by simpa using hp
  have hv' : tmps[u]?.getD undef = v := by simpa using hv
  simp [results, h, hp', hv', asAddr, run_loadVar_row w g t ty cs fr d hg hu hd hi]
theorem results_tmp_row_tmp {P : Program} {fn : Func} {s p u : Tmp} {ty : TypeId} (h : fn.results = #[.tmp s, .cell p ty, .tmp u]) (tmps : Array Value) (w : World) (g : Nat) (t : TypeId) (cs : Array Value) (fr : Nat × Nat) (d : TypeDesc) (v0 v : Value)
    (hs : tmps.getD s undef = v0) (hp : tmps.getD p undef = .pointer (some ⟨g, 0, none⟩)) (hv : tmps.getD u undef = v) (hg : w.heap[g]? = some (.cells cs t fr))
    (hu : P.underlying ty = some d) (hd : (match d with | .struct _ | .array _ _ => true | _ => false) = true) (hi : (P.info? ty).map (·.size) = some cs.size) :
    (results fn tmps).run P w = .ok (.tuple #[v0, .agg cs, v]) w := by
  have hs' : tmps[s]?.getD undef = v0 := by simpa using hs
  have hp' : tmps[p]?.getD undef = .pointer (some ⟨g, 0, none⟩) := by simpa using hp
  have hv' : tmps[u]?.getD undef = v := by simpa using hv
  simp [results, h, hs', hp', hv', asAddr, run_loadVar_row w g t ty cs fr d hg hu hd hi]
end Go.Proofs.Ytpadgkkeihhneaa
/- Variables that hold a whole struct: one is laid, one is built; the world behind goes by a name. -/
namespace Go.Proofs.Ytpadgkkeihhneaa
set_option maxRecDepth 100000
set_option linter.unusedSimpArgs false
set_option linter.unusedVariables false
open Go.ChangeShapes Go.WideShapes Go.ChangeAt Go.RowKit
set_option linter.unusedVariables false

theorem wpList_build {P : Program} {w : World} {ops : Array Oper} {rest : List Oper} {o : Oper} {a : Act} {Q : Exit → Act → World → Prop} (hgd : o.guard = none) (t : TypeId) (parts : Array (Nat × Operand)) (ho : o.op = .build t parts)
    (vs : List (Nat × Value)) (he : (parts.map fun (i, x) => (i, a.eval x)).toList = vs) (cells : Array Value) (hc : P.built t vs = some cells)
    (h : wpList P ops Q rest (a.put o.dst (.agg cells)) w) : wpList P ops Q (o :: rest) a w := wpList_plain hgd fun K hK => by
  unfold Oper.wp execOp
  subst he
  simp only [ho, Sem.run_bind, run_build w t _ cells hc, Result.andThen_ok]
  exact hK _ _ h
theorem run_alloc {P : Program} {w : World} {t : TypeId} {cs : Array Value} (hi : (P.info? t).map (·.zero) = some (some (.agg cs))) : (Instr.alloc t true (.tuple #[])).run P w = .ok (.pointer (some ⟨w.heap.size, 0, none⟩)) (w.alloc (.cells cs t)) := by
  obtain ⟨i, hi1, hi2⟩ := Option.map_eq_some_iff.mp hi
  simp [Instr.alloc, zeroValue, typeInfo, hi1, hi2, Value.cells, newVar, newRow, go_sem]
theorem wpList_alloc_blk {P : Program} {w : World} {ops : Array Oper} {rest : List Oper} {o : Oper} {a : Act} {Q : Exit → Act → World → Prop} (hgd : o.guard = none) (t : TypeId) (ho : o.op = .alloc t)
    (cs : Array Value) (hi : (P.info? t).map (·.zero) = some (some (.agg cs)))
    (h : ∀ w', Blk w' w.heap.size t cs → Below w.heap.size w w' → w'.heap.size = w.heap.size + 1 → wpList P ops Q rest (a.put o.dst (.pointer (some ⟨w.heap.size, 0, none⟩))) w') : wpList P ops Q (o :: rest) a w := wpList_plain hgd fun K hK => by
  unfold Oper.wp execOp
  simp only [ho, Sem.run_bind, run_alloc hi, Result.andThen_ok]
  exact hK _ _ (h _ (Blk.new w t cs) ((Below.refl _ _).alloc (Nat.le_refl _) _) (by simp))
theorem run_box {P : Program} {w : World} {t : TypeId} {cs : Array Value} : (Instr.box t (.agg cs)).run P w = .ok (.pointer (some ⟨w.heap.size, 0, none⟩)) (w.alloc (.cells cs t)) := by
  simp [Instr.box, Value.cells, newVar, newRow, go_sem]
theorem wpList_box_blk {P : Program} {w : World} {ops : Array Oper} {rest : List Oper} {o : Oper} {a : Act} {Q : Exit → Act → World → Prop} (hgd : o.guard = none) (t : TypeId) (x : Operand) (ho : o.op = .box t x)
    (cs : Array Value) (hx : a.eval x = .agg cs)
    (h : ∀ w', Blk w' w.heap.size t cs → Below w.heap.size w w' → w'.heap.size = w.heap.size + 1 → wpList P ops Q rest (a.put o.dst (.pointer (some ⟨w.heap.size, 0, none⟩))) w') : wpList P ops Q (o :: rest) a w := wpList_plain hgd fun K hK => by
  unfold Oper.wp execOp
  simp only [ho, hx, Sem.run_bind, run_box, Result.andThen_ok]
  exact hK _ _ (h _ (Blk.new w t cs) ((Below.refl _ _).alloc (Nat.le_refl _) _) (by simp))
theorem have_tail1 {goal : Prop} {G I : World → Prop} (main : (∀ w, I w → G w) → goal) (tl : ∀ w, I w → G w) : goal := main tl
end Go.Proofs.Ytpadgkkeihhneaa
/- The blocks that a call has laid: what lies in each, all apart, and what of the old blocks may have turned. -/
namespace Go.Proofs.Ytpadgkkeihhneaa
set_option maxRecDepth 100000
set_option linter.unusedSimpArgs false
set_option linter.unusedVariables false
open Go.ChangeShapes Go.WideShapes Go.ChangeAt Go.RowKit
set_option linter.unusedVariables false

/-- Since w0: the blocks of L hold just what L says, no two are one, all are new; of the old ones at most those of S have turned. -/
structure Own (w0 : World) (S : List Nat) (L : List (Nat × TypeId × List Value)) (W : World) : Prop where
  has : ∀ e ∈ L, Blk W e.1 e.2.1 e.2.2.toArray ∧ w0.heap.size ≤ e.1
  apart : (L.map (·.1)).Nodup
  touch : Touch S w0 W
  old : ∀ s ∈ S, s < w0.heap.size
section
variable {w0 W W' : World} {S : List Nat} {L : List (Nat × TypeId × List Value)}
theorem Own.nil (w0 : World) (S : List Nat) (h : ∀ s ∈ S, s < w0.heap.size) : Own w0 S [] w0 := ⟨by simp, by simp, Touch.refl _ _, h⟩
theorem Own.size (h : Own w0 S L W) : w0.heap.size ≤ W.heap.size := h.touch.size
theorem Own.blk (h : Own w0 S L W) (i : Nat) {b : Nat} {t : TypeId} {cs : List Value} (hi : L[i]? = some (b, t, cs)) : Blk W b t cs.toArray := (h.has _ (List.mem_of_getElem? hi)).1
theorem Own.new (h : Own w0 S L W) (i : Nat) {b : Nat} {t : TypeId} {cs : List Value} (hi : L[i]? = some (b, t, cs)) : w0.heap.size ≤ b := (h.has _ (List.mem_of_getElem? hi)).2
theorem Own.cells (h : Own w0 S L W) (i : Nat) {b : Nat} {t : TypeId} {cs : List Value} (hi : L[i]? = some (b, t, cs)) : ∀ j, W.cell? ⟨b, j, none⟩ = cs[j]? := fun j => by rw [(h.blk i hi).cell j, List.getElem?_toArray]
theorem Own.froz (h : Own w0 S L W) (i : Nat) {b : Nat} {t : TypeId} {cs : List Value} (hi : L[i]? = some (b, t, cs)) : ∀ j, W.frozen? ⟨b, j, none⟩ = false := fun j => (h.blk i hi).froz j
theorem Own.push (h : Own w0 S L W) {t : TypeId} {cs : List Value} (hx : Blk W' W.heap.size t cs.toArray) (hb : Below W.heap.size W W') : Own w0 S (L ++ [(W.heap.size, t, cs)]) W' := by
  refine ⟨fun e he => ?_, ?_, h.touch.step hb, h.old⟩
  · rcases List.mem_append.1 he with he | he
    · exact ⟨(h.has e he).1.step hb, (h.has e he).2⟩
    · simp only [List.mem_singleton] at he; subst he; exact ⟨hx, h.size⟩
  · rw [List.map_append, List.nodup_append]
    refine ⟨h.apart, by simp, ?_⟩
    intro a ha b hb' e
    simp only [List.map_cons, List.map_nil, List.mem_singleton] at hb'
    subst hb' e
    obtain ⟨e, he, e2⟩ := List.mem_map.1 ha
    have := (h.has e he).1.lt
    omega
theorem Own.put (h : Own w0 S L W) (i : Nat) {b : Nat} {t : TypeId} {cs new : List Value} (hi : L[i]? = some (b, t, cs)) (hx : Blk W' b t new.toArray) (ht : Touch [b] W W') : Own w0 S (L.set i (b, t, new)) W' := by
  have hm : (L.set i (b, t, new)).map (·.1) = L.map (·.1) := by
    rw [List.map_set]
    refine List.ext_getElem? fun j => ?_
    rw [List.getElem?_set]
    by_cases hj : i = j
    · subst hj
      have hl := (List.getElem?_eq_some_iff.1 hi).1
      rw [if_pos rfl, if_pos (by simpa using hl), List.getElem?_map, hi]; rfl
    · rw [if_neg hj]
  have hnew := h.new i hi
  refine ⟨fun e he => ?_, hm ▸ h.apart, h.touch.next ht (fun x hx' => by simp only [List.mem_singleton] at hx'; subst hx'; exact .inr hnew), h.old⟩
  obtain ⟨j, hj⟩ := List.getElem?_of_mem he
  rw [List.getElem?_set] at hj
  by_cases hij : i = j
  · subst hij
    have hl := (List.getElem?_eq_some_iff.1 hi).1
    rw [if_pos rfl, if_pos hl] at hj
    injection hj with hj
    subst hj
    exact ⟨hx, hnew⟩
  · rw [if_neg hij] at hj
    have hmem := List.mem_of_getElem? hj
    refine ⟨(h.has e hmem).1.touch ht ?_, (h.has e hmem).2⟩
    simp only [List.mem_singleton]
    intro e1
    have hnd := List.pairwise_iff_getElem.1 h.apart
    have hl1 := (List.getElem?_eq_some_iff.1 hi).1
    have hl2 := (List.getElem?_eq_some_iff.1 hj).1
    have q1 : (L.map (·.1))[i]'(by simpa using hl1) = b := by rw [List.getElem_map, (List.getElem?_eq_some_iff.1 hi).2]
    have q2 : (L.map (·.1))[j]'(by simpa using hl2) = b := by rw [List.getElem_map, (List.getElem?_eq_some_iff.1 hj).2]; exact e1
    rcases Nat.lt_or_gt_of_ne hij with h1 | h1
    · exact hnd i j (by simpa using hl1) (by simpa using hl2) h1 (q1.trans q2.symm)
    · exact hnd j i (by simpa using hl2) (by simpa using hl1) h1 (q2.trans q1.symm)
theorem Own.set (h : Own w0 S L W) (i : Nat) {b : Nat} {t : TypeId} {cs : List Value} (hi : L[i]? = some (b, t, cs)) (j : Nat) (v : Value) : Own w0 S (L.set i (b, t, cs.set j v)) (W.setCell ⟨b, j, none⟩ v) :=
  h.put i hi (by have := (h.blk i hi).put j v; rwa [List.setIfInBounds_toArray] at this) ((Touch.refl [b] W).set (by simp) j v)
theorem Own.drew (h : Own w0 S L W) : Own w0 S L W.drew := ⟨fun e he => ⟨(h.has e he).1.drew, (h.has e he).2⟩, h.apart, h.touch.drew, h.old⟩
theorem Own.step (h : Own w0 S L W) (hb : Below W.heap.size W W') : Own w0 S L W' := ⟨fun e he => ⟨(h.has e he).1.step hb, (h.has e he).2⟩, h.apart, h.touch.step hb, h.old⟩
theorem Own.call (h : Own w0 S L W) {T : List Nat} (ht : Touch T W W') (hT : ∀ s ∈ T, s ∈ S) : Own w0 S L W' :=
  ⟨fun e he => ⟨(h.has e he).1.touch ht (fun hm => by have := h.old _ (hT _ hm); have := (h.has e he).2; omega), (h.has e he).2⟩, h.apart, h.touch.next ht (fun t hm => .inl (hT t hm)), h.old⟩
theorem Own.below (h : Own w0 [] L W) : Below w0.heap.size w0 W := h.touch.to_below (by simp) (Nat.le_refl _)
theorem Own.alloc (h : Own w0 S L W) (o : Obj) : Own w0 S L (W.alloc o) := h.step ((Below.refl _ _).alloc (Nat.le_refl _) _)
end
/-- Cells into the middle of a block: the world behind goes by a name. -/
theorem wpList_store_part {P : Program} {w : World} {ops : Array Oper} {rest : List Oper} {op : Oper} {a : Act} {Q : Exit → Act → World → Prop} (hgd : op.guard = none) (ty : TypeId) (x y : Operand) (ho : op.op = .store ty x y)
    (g o : Nat) (t : TypeId) (old new : List Value) (hx : a.eval x = .pointer (some ⟨g, o, none⟩)) (hy : a.eval y = .agg new.toArray) (hb : Blk w g t old.toArray) (hs : o + new.length ≤ old.length)
    (hi : (P.info? ty).map (·.size) = some new.toArray.size) (h1 : new.toArray.all (·.oneCell') = true)
    (h : ∀ w', Blk w' g t (old.take o ++ new ++ old.drop (o + new.length)).toArray → Touch [g] w w' → w'.heap.size = w.heap.size → wpList P ops Q rest (a.put op.dst undef) w') : wpList P ops Q (op :: rest) a w := by
  have hth : w.there g o new.toArray.size := fun j hj => by
    simp only [List.size_toArray] at hj
    rw [hb.cell (o + j), hb.froz (o + j)]
    exact ⟨by rw [List.getElem?_toArray, List.getElem?_eq_getElem (by omega)]; rfl, rfl⟩
  have h2 := Blk.setCells new o w _ hb (by simpa using hs)
  exact wpList_store_mid hgd ty x y ho g o new.toArray hx hy hth hi h1 (h _ h2 (touch_setCells w g o _).1 (touch_setCells w g o _).2)
theorem Blk.range {w : World} {g : Nat} {t : TypeId} {pre cs : List Value} (h : Blk w g t (pre ++ cs).toArray) : w.rangeAt g pre.length cs := fun j v hv => by
  rw [h.cell (pre.length + j), List.getElem?_toArray, List.getElem?_append_right (by omega)]
  simpa using hv
end Go.Proofs.Ytpadgkkeihhneaa
/- Steps on the blocks that a call has laid. -/
namespace Go.Proofs.Ytpadgkkeihhneaa
set_option maxRecDepth 100000
set_option linter.unusedSimpArgs false
set_option linter.unusedVariables false
open Go.ChangeShapes Go.WideShapes Go.ChangeAt Go.RowKit
set_option linter.unusedVariables false

theorem storeVar_one {ty : TypeId} {a : Addr} {v : Value} (hv : v.oneCell' = true) : storeVar ty a v = storeVar ty a (.agg #[v]) := by
  cases v <;> first | rfl | (simp [Value.oneCell'] at hv)
/-- A value as the cells it is stored as. -/
def Fits (v : Value) (vs : List Value) : Prop := v = .agg vs.toArray ∨ (v.oneCell' = true ∧ vs = [v])
theorem fits_agg (vs : List Value) : Fits (.agg vs.toArray) vs := .inl rfl
theorem fits_one {v : Value} (h : v.oneCell' = true) : Fits v [v] := .inr ⟨h, rfl⟩
theorem run_store_own {P : Program} {w : World} {ty : TypeId} {g o : Nat} {t : TypeId} {old vs : List Value} {v : Value} (hv : Fits v vs) (hb : Blk w g t old.toArray) (hs : o + vs.length ≤ old.length)
    (hi : (P.info? ty).map (·.size) = some vs.length) (h1 : vs.all (·.oneCell') = true) : (Instr.storeAt ty (.pointer (some ⟨g, o, none⟩)) v).run P w = .ok () (w.setCells g o vs) := by
  have hth : w.there g o vs.toArray.size := fun j hj => by
    simp only [List.size_toArray] at hj
    rw [hb.cell (o + j), hb.froz (o + j)]
    exact ⟨by rw [List.getElem?_toArray, List.getElem?_eq_getElem (by omega)]; rfl, rfl⟩
  have h2 := run_storeAt_mid (P := P) w g o ty vs.toArray hth (by simpa using hi) (by simpa using h1)
  rcases hv with rfl | ⟨hv, rfl⟩
  · exact h2
  · simp only [Instr.storeAt, storeVar_one hv] at h2 ⊢
    exact h2
section
variable {P : Program} {w w0 : World} {S : List Nat} {L : List (Nat × TypeId × List Value)} {ops : Array Oper} {rest : List Oper} {op : Oper} {a : Act} {Q : Exit → Act → World → Prop}
theorem own_store (HO : Own w0 S L w) (i : Nat) {g o : Nat} {t : TypeId} {old vs new : List Value} (hL : L[i]? = some (g, t, old)) (hs : o + vs.length ≤ old.length) (hn : old.take o ++ vs ++ old.drop (o + vs.length) = new) : Own w0 S (L.set i (g, t, new)) (w.setCells g o vs) := by
  have h2 := Blk.setCells vs o w _ (HO.blk i hL) (by simpa using hs)
  subst hn
  exact HO.put i hL h2 (touch_setCells w g o _).1
theorem wpList_store_own (HO : Own w0 S L w) (hgd : op.guard = none) (ty : TypeId) (x y : Operand) (ho : op.op = .store ty x y) (i g o : Nat) (t : TypeId) (old vs new : List Value) (hL : L[i]? = some (g, t, old))
    (v : Value) (hx : a.eval x = .pointer (some ⟨g, o, none⟩)) (hy : a.eval y = v) (hv : Fits v vs) (hs : o + vs.length ≤ old.length) (hn : old.take o ++ vs ++ old.drop (o + vs.length) = new)
    (hi : (P.info? ty).map (·.size) = some vs.length) (h1 : vs.all (·.oneCell') = true)
    (h : ∀ w', Own w0 S (L.set i (g, t, new)) w' → wpList P ops Q rest (a.put op.dst undef) w') : wpList P ops Q (op :: rest) a w := wpList_plain hgd fun K hK => by
  unfold Oper.wp execOp
  simp only [ho, hx, hy, Sem.run_bind, run_store_own hv (HO.blk i hL) hs hi h1, Result.andThen_ok]
  exact hK _ _ (h _ (own_store HO i hL hs hn))
theorem step_store_own {K : Act → World → Prop} {E : Prop} (HO : Own w0 S L w) (hgd : op.guard = none) (ty : TypeId) (x y : Operand) (ho : op.op = .store ty x y) (i g o : Nat) (t : TypeId) (old vs new : List Value) (hL : L[i]? = some (g, t, old))
    (v : Value) (hx : a.eval x = .pointer (some ⟨g, o, none⟩)) (hy : a.eval y = v) (hv : Fits v vs) (hs : o + vs.length ≤ old.length) (hn : old.take o ++ vs ++ old.drop (o + vs.length) = new)
    (hi : (P.info? ty).map (·.size) = some vs.length) (h1 : vs.all (·.oneCell') = true)
    (h : ∀ w', Own w0 S (L.set i (g, t, new)) w' → K (a.put op.dst undef) w') : if Region.wanted op (yielded ops a.tmps) = true then Oper.wp P op a w K Q else E := by
  have hw : Region.wanted op (yielded ops a.tmps) = true := by simp [Region.wanted, hgd]
  rw [if_pos hw]
  unfold Oper.wp execOp
  simp only [ho, hx, hy, Sem.run_bind, run_store_own hv (HO.blk i hL) hs hi h1, Result.andThen_ok]
  exact h _ (own_store HO i hL hs hn)
theorem own_range (HO : Own w0 S L w) (i : Nat) {g o n : Nat} {t : TypeId} {cs vs : List Value} (hL : L[i]? = some (g, t, cs)) (hv : (cs.drop o).take n = vs) : w.rangeAt g o vs := fun j v hj => by
  subst hv
  rw [HO.cells i hL (o + j)]
  rw [List.getElem?_take] at hj
  split at hj
  · rwa [List.getElem?_drop] at hj
  · cases hj
theorem wpList_load_own (HO : Own w0 S L w) (hgd : op.guard = none) (ty : TypeId) (x : Operand) (ho : op.op = .load ty x) (i g o n : Nat) (t : TypeId) (cs vs : List Value) (d : TypeDesc) (hL : L[i]? = some (g, t, cs)) (hv : (cs.drop o).take n = vs)
    (hx : a.eval x = .pointer (some ⟨g, o, none⟩)) (hu : P.underlying ty = some d) (hd : d.isRow = true) (hi : (P.info? ty).map (·.size) = some vs.length)
    (h : wpList P ops Q rest (a.put op.dst (.agg vs.toArray)) w) : wpList P ops Q (op :: rest) a w :=
  wpList_load_mid hgd ty x ho g o hx vs d (own_range HO i hL hv) hu hd hi h
theorem wpList_alloc_own (HO : Own w0 S L w) (hgd : op.guard = none) (t : TypeId) (ho : op.op = .alloc t) (cs : List Value) (hi : (P.info? t).map (·.zero) = some (some (.agg cs.toArray)))
    (h : ∀ w' b, Own w0 S (L ++ [(b, t, cs)]) w' → wpList P ops Q rest (a.put op.dst (.pointer (some ⟨b, 0, none⟩))) w') : wpList P ops Q (op :: rest) a w :=
  wpList_alloc_blk hgd t ho cs.toArray hi fun w' h1 h2 _ => h w' _ (HO.push h1 h2)
theorem wpList_box_own (HO : Own w0 S L w) (hgd : op.guard = none) (t : TypeId) (x : Operand) (ho : op.op = .box t x) (cs : List Value) (hx : a.eval x = .agg cs.toArray)
    (h : ∀ w' b, Own w0 S (L ++ [(b, t, cs)]) w' → wpList P ops Q rest (a.put op.dst (.pointer (some ⟨b, 0, none⟩))) w') : wpList P ops Q (op :: rest) a w :=
  wpList_box_blk hgd t x ho cs.toArray hx fun w' h1 h2 _ => h w' _ (HO.push h1 h2)
/-- A slice literal of one struct. -/
theorem wpList_slice_own (HO : Own w0 S L w) (hgd : op.guard = none) (t e : TypeId) (len : Nat) (parts : Array (Nat × Operand)) (ho : op.op = .buildSlice t len parts) (hu : P.underlying t = some (.slice e)) (cs : List Value)
    (hf : P.builtSlice e len (parts.map fun (i, x) => (i, a.eval x)).toList = some cs.toArray)
    (h : ∀ w' b, Own w0 S (L ++ [(b, e, cs)]) w' → wpList P ops Q rest (a.put op.dst (.slice (some ⟨b, 0, none⟩) len len)) w') : wpList P ops Q (op :: rest) a w :=
  Go.Great.wpList_buildSliceTo hgd t e len parts ho w.heap.size rfl op.dst rfl hu cs.toArray hf (h _ _ (HO.push (Blk.new w e cs.toArray) ((Below.refl _ _).alloc (Nat.le_refl _) _)))
theorem splice_all {old vs : List Value} (h : old.length = vs.length) : old.take 0 ++ vs ++ old.drop (0 + vs.length) = vs := by
  rw [List.take_zero, List.nil_append, List.drop_eq_nil_of_le (by omega), List.append_nil]
theorem take_all {cs : List Value} {n : Nat} (h : cs.length = n) : (cs.drop 0).take n = cs := by rw [List.drop_zero, List.take_of_length_le (by omega)]
theorem results_row_row {P : Program} {fn : Func} {p q : Tmp} {ty tz : TypeId} (h : fn.results = #[.cell p ty, .cell q tz]) (tmps : Array Value) (HO : Own w0 S L w) (i j g b : Nat) (t u : TypeId) (cs vs : List Value) (d e : TypeDesc)
    (hi : L[i]? = some (g, t, cs)) (hj : L[j]? = some (b, u, vs)) (hp : tmps.getD p undef = .pointer (some ⟨g, 0, none⟩)) (hq : tmps.getD q undef = .pointer (some ⟨b, 0, none⟩))
    (hu : P.underlying ty = some d) (hd : d.isRow = true) (hs : (P.info? ty).map (·.size) = some cs.length) (hu2 : P.underlying tz = some e) (hd2 : e.isRow = true) (hs2 : (P.info? tz).map (·.size) = some vs.length) :
    (results fn tmps).run P w = .ok (.tuple #[.agg cs.toArray, .agg vs.toArray]) w := by
  have hp' : tmps[p]?.getD undef = .pointer (some ⟨g, 0, none⟩) := by simpa using hp
  have hq' : tmps[q]?.getD undef = .pointer (some ⟨b, 0, none⟩) := by simpa using hq
  have r1 := run_loadVar_mid (P := P) w g 0 ty cs d (own_range HO i hi (take_all rfl)) hu hd hs
  have r2 := run_loadVar_mid (P := P) w b 0 tz vs e (own_range HO j hj (take_all rfl)) hu2 hd2 hs2
  simp [results, h, hp', hq', asAddr, r1, r2]
theorem results_row_row_tmp {P : Program} {fn : Func} {p q r : Tmp} {ty tz : TypeId} (h : fn.results = #[.cell p ty, .cell q tz, .tmp r]) (tmps : Array Value) (HO : Own w0 S L w) (i j g b : Nat) (t u : TypeId) (cs vs : List Value) (d e : TypeDesc) (v : Value)
    (hi : L[i]? = some (g, t, cs)) (hj : L[j]? = some (b, u, vs)) (hp : tmps.getD p undef = .pointer (some ⟨g, 0, none⟩)) (hq : tmps.getD q undef = .pointer (some ⟨b, 0, none⟩)) (hr : tmps.getD r undef = v)
    (hu : P.underlying ty = some d) (hd : d.isRow = true) (hs : (P.info? ty).map (·.size) = some cs.length) (hu2 : P.underlying tz = some e) (hd2 : e.isRow = true) (hs2 : (P.info? tz).map (·.size) = some vs.length) :
    (results fn tmps).run P w = .ok (.tuple #[.agg cs.toArray, .agg vs.toArray, v]) w := by
  have hp' : tmps[p]?.getD undef = .pointer (some ⟨g, 0, none⟩) := by simpa using hp
  have hq' : tmps[q]?.getD undef = .pointer (some ⟨b, 0, none⟩) := by simpa using hq
  have hr' : tmps[r]?.getD undef = v := by simpa using hr
  have r1 := run_loadVar_mid (P := P) w g 0 ty cs d (own_range HO i hi (take_all rfl)) hu hd hs
  have r2 := run_loadVar_mid (P := P) w b 0 tz vs e (own_range HO j hj (take_all rfl)) hu2 hd2 hs2
  simp [results, h, hp', hq', hr', asAddr, r1, r2]
theorem results_row_tmp_tmp {P : Program} {fn : Func} {p q r : Tmp} {ty : TypeId} (h : fn.results = #[.cell p ty, .tmp q, .tmp r]) (tmps : Array Value) (HO : Own w0 S L w) (i g : Nat) (t : TypeId) (cs : List Value) (d : TypeDesc) (u v : Value)
    (hi : L[i]? = some (g, t, cs)) (hp : tmps.getD p undef = .pointer (some ⟨g, 0, none⟩)) (hq : tmps.getD q undef = u) (hr : tmps.getD r undef = v)
    (hu : P.underlying ty = some d) (hd : d.isRow = true) (hs : (P.info? ty).map (·.size) = some cs.length) :
    (results fn tmps).run P w = .ok (.tuple #[.agg cs.toArray, u, v]) w := by
  have hp' : tmps[p]?.getD undef = .pointer (some ⟨g, 0, none⟩) := by simpa using hp
  have hq' : tmps[q]?.getD undef = u := by simpa using hq
  have hr' : tmps[r]?.getD undef = v := by simpa using hr
  have r1 := run_loadVar_mid (P := P) w g 0 ty cs d (own_range HO i hi (take_all rfl)) hu hd hs
  simp [results, h, hp', hq', hr', asAddr, r1]
theorem results_row {P : Program} {fn : Func} {p : Tmp} {ty : TypeId} (h : fn.results = #[.cell p ty]) (tmps : Array Value) (HO : Own w0 S L w) (i g : Nat) (t : TypeId) (cs : List Value) (d : TypeDesc)
    (hi : L[i]? = some (g, t, cs)) (hp : tmps.getD p undef = .pointer (some ⟨g, 0, none⟩))
    (hu : P.underlying ty = some d) (hd : d.isRow = true) (hs : (P.info? ty).map (·.size) = some cs.length) :
    (results fn tmps).run P w = .ok (.agg cs.toArray) w := by
  have hp' : tmps[p]?.getD undef = .pointer (some ⟨g, 0, none⟩) := by simpa using hp
  have r1 := run_loadVar_mid (P := P) w g 0 ty cs d (own_range HO i hi (take_all rfl)) hu hd hs
  simp [results, h, hp', asAddr, r1]
theorem yieldsIf_build {SS : World → Prop} (hw : Region.wanted op (yielded ops a.tmps) = true) (t : TypeId) (parts : Array (Nat × Operand)) (ho : op.op = .build t parts)
    (vs : List (Nat × Value)) (he : (parts.map fun (i, x) => (i, a.eval x)).toList = vs) (cells : Array Value) (hc : P.built t vs = some cells) : YieldsIf P ops SS op (.agg cells) a :=
  .inl ⟨hw, fun w _ => by
    unfold execOp
    subst he
    simp only [ho, Sem.run_bind, run_build w t _ cells hc, Result.andThen_ok, Sem.run_pure]⟩
theorem yieldsIf_load {SS : World → Prop} (hw : Region.wanted op (yielded ops a.tmps) = true) (ty : TypeId) (x : Operand) (ho : op.op = .load ty x) (g o n : Nat) (t : TypeId) (cs vs : List Value) (d : TypeDesc)
    (hS : ∀ w, SS w → ∀ j, w.cell? ⟨g, j, none⟩ = cs[j]?) (hv : (cs.drop o).take n = vs) (hx : a.eval x = .pointer (some ⟨g, o, none⟩)) (hu : P.underlying ty = some d) (hd : d.isRow = true) (hi : (P.info? ty).map (·.size) = some vs.length) : YieldsIf P ops SS op (.agg vs.toArray) a :=
  yieldsIf_load_mid hw ty x ho g o hx vs d (fun w hw j v hj => by
    subst hv
    rw [hS w hw (o + j)]
    rw [List.getElem?_take] at hj
    split at hj
    · rwa [List.getElem?_drop] at hj
    · cases hj) hu hd hi
end
end Go.Proofs.Ytpadgkkeihhneaa
/- A look at the operation that is next: it fits or not, at once. -/
namespace Go.Proofs.Ytpadgkkeihhneaa
set_option maxRecDepth 100000
set_option linter.unusedSimpArgs false
set_option linter.unusedVariables false
open Go.RowKit
theorem at_load (ty : TypeId) (x : Operand) {P : Program} {w : World} {ops : Array Oper} {rest : List Oper} {d : Option Tmp} {t : TypeId} {p : String} {af : Array Edge} {g : Option (Nat × Bool)} {a : Act} {Q : Exit → Act → World → Prop}
    (h : wpList P ops Q ({ dst := d, op := .load ty x, type := t, pos := p, after := af, guard := g } :: rest) a w) : wpList P ops Q ({ dst := d, op := .load ty x, type := t, pos := p, after := af, guard := g } :: rest) a w := h
theorem at_store (ty : TypeId) (x : Operand) {y : Operand} {P : Program} {w : World} {ops : Array Oper} {rest : List Oper} {d : Option Tmp} {t : TypeId} {p : String} {af : Array Edge} {g : Option (Nat × Bool)} {a : Act} {Q : Exit → Act → World → Prop}
    (h : wpList P ops Q ({ dst := d, op := .store ty x y, type := t, pos := p, after := af, guard := g } :: rest) a w) : wpList P ops Q ({ dst := d, op := .store ty x y, type := t, pos := p, after := af, guard := g } :: rest) a w := h
theorem at_build (ty : TypeId) {parts : Array (Nat × Operand)} {P : Program} {w : World} {ops : Array Oper} {rest : List Oper} {d : Option Tmp} {t : TypeId} {p : String} {af : Array Edge} {g : Option (Nat × Bool)} {a : Act} {Q : Exit → Act → World → Prop}
    (h : wpList P ops Q ({ dst := d, op := .build ty parts, type := t, pos := p, after := af, guard := g } :: rest) a w) : wpList P ops Q ({ dst := d, op := .build ty parts, type := t, pos := p, after := af, guard := g } :: rest) a w := h
theorem at_alloc (ty : TypeId) {P : Program} {w : World} {ops : Array Oper} {rest : List Oper} {d : Option Tmp} {t : TypeId} {p : String} {af : Array Edge} {g : Option (Nat × Bool)} {a : Act} {Q : Exit → Act → World → Prop}
    (h : wpList P ops Q ({ dst := d, op := .alloc ty, type := t, pos := p, after := af, guard := g } :: rest) a w) : wpList P ops Q ({ dst := d, op := .alloc ty, type := t, pos := p, after := af, guard := g } :: rest) a w := h
theorem at_box (ty : TypeId) (x : Operand) {P : Program} {w : World} {ops : Array Oper} {rest : List Oper} {d : Option Tmp} {t : TypeId} {p : String} {af : Array Edge} {g : Option (Nat × Bool)} {a : Act} {Q : Exit → Act → World → Prop}
    (h : wpList P ops Q ({ dst := d, op := .box ty x, type := t, pos := p, after := af, guard := g } :: rest) a w) : wpList P ops Q ({ dst := d, op := .box ty x, type := t, pos := p, after := af, guard := g } :: rest) a w := h
end Go.Proofs.Ytpadgkkeihhneaa
/- A slice literal of one struct in a region; joining two orders. -/
namespace Go.Proofs.Ytpadgkkeihhneaa
set_option maxRecDepth 100000
set_option linter.unusedSimpArgs false
set_option linter.unusedVariables false
open Go.ChangeShapes Go.WideShapes Go.ChangeAt Go.RowKit
set_option linter.unusedVariables false
theorem have_tail2 {goal : Prop} {G I : Nat → World → Prop} (main : (∀ b w, I b w → G b w) → goal) (tl : ∀ b w, I b w → G b w) : goal := main tl
theorem step_slice_own {P : Program} {w w0 : World} {S : List Nat} {L : List (Nat × TypeId × List Value)} {ops : Array Oper} {op : Oper} {a : Act} {Q : Exit → Act → World → Prop} {K : Act → World → Prop} {E : Prop}
    (HO : Own w0 S L w) (hgd : op.guard = none) (t e : TypeId) (len : Nat) (parts : Array (Nat × Operand)) (ho : op.op = .buildSlice t len parts) (hu : P.underlying t = some (.slice e)) (cs : List Value)
    (hf : P.builtSlice e len (parts.map fun (i, x) => (i, a.eval x)).toList = some cs.toArray)
    (h : ∀ w' b, Own w0 S (L ++ [(b, e, cs)]) w' → K (a.put op.dst (.slice (some ⟨b, 0, none⟩) len len)) w') : if Region.wanted op (yielded ops a.tmps) = true then Oper.wp P op a w K Q else E := by
  have hw : Region.wanted op (yielded ops a.tmps) = true := by simp [Region.wanted, hgd]
  rw [if_pos hw]
  have hp : (Instr.buildSlice t len (parts.map fun (i, x) => (i, a.eval x))).run P w = .ok (.slice (some ⟨w.heap.size, 0, none⟩) len len) (w.alloc (.cells cs.toArray e)) := by
    unfold Program.builtSlice at hf
    cases hie : P.info? e with
    | none => simp [hie] at hf
    | some ie =>
      cases hz : ie.zero with
      | none => simp [hie, hz] at hf
      | some z =>
        simp only [hie, hz] at hf
        split at hf
        · cases hf
        · rename_i hn
          exact run_buildSlice w t e len _ _ ie z hu hie hz (fun h => hn (.inl h)) (fun h => hn (.inr h)) hf
  unfold Oper.wp execOp
  simp only [ho, Sem.run_bind, hp, Result.andThen_ok]
  exact h _ _ (HO.push (Blk.new w e cs.toArray) ((Below.refl _ _).alloc (Nat.le_refl _) _))
end Go.Proofs.Ytpadgkkeihhneaa
