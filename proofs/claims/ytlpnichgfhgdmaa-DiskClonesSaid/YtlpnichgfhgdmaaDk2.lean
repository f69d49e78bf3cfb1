/- FailAfter, New. -/
import Derived.Test.YtlpnichgfhgdmaaDk
import Derived.WalkLawsBesides
namespace Go.Proofs.Ytlpnichgfhgdmaa
open Go.ChangeShapes Go.WideShapes Go.ChangeAt Go.RowKit
set_option linter.unusedVariables false

set_option maxHeartbeats 1000000 in
theorem failAfter_c (d : Nat) (F : List Nat) (D : DS) (n : Int) (hn : n ≤ 9223372036854775807) (w : World) (h : Disk w d F D) :
    Calls Try.prog 16 #[.pointer (some ⟨d, 0, none⟩), .int .i64 n] w (Does w d F (dFailAfter D n) (.tuple #[])) := by
  obtain ⟨gv, pv, h⟩ := h
  obtain ⟨c0, c1, c2, c3, f0, f1, f2, f3⟩ := h.cells
  have H := hide h
  by_cases hle : -1 ≤ n
  · have hr : dFailAfter D n = { D with fuse := n } := by unfold dFailAfter; rw [Int.max_eq_left hle]
    rw [hr]
    have HF := hide (h.fuse n ⟨hle, hn⟩)
    clear h hr
    go_enter Try.func16, Try.ntmps16
    go_wp2_with fail
    go_end0
    exact ⟨rfl, F, ⟨gv, pv, HF.out⟩, touch_set H.out.inF 2 _, fun j hj => .inl hj⟩
  · have hlt : n < -1 := by omega
    have hr : dFailAfter D n = { D with fuse := -1 } := by unfold dFailAfter; rw [Int.max_eq_right (by omega)]
    rw [hr]
    have HF := hide (h.fuse (-1) ⟨by omega, by omega⟩)
    clear h hr hle
    go_enter Try.func16, Try.ntmps16
    go_wp2_with fail
    go_end0
    exact ⟨rfl, F, ⟨gv, pv, HF.out⟩, touch_set H.out.inF 2 _, fun j hj => .inl hj⟩

theorem info_page : (Try.prog.info? 64).map (fun i => (i.zero, i.size, i.bytes)) = some (some (.agg (Array.replicate 128 (.int .u8 0))), 128, 128) := by kernel_rfl
/-- n zero pages in memory. -/
@[irreducible] def zp (n : Nat) : Array Value := Array.replicate (n * 128) (bv 0)
theorem flatten_rep (n m : Nat) (x : UInt8) : (List.replicate n (List.replicate m x)).flatten = List.replicate (n * m) x := by
  induction n with
  | zero => simp
  | succ n ih => rw [List.replicate_succ, List.flatten_cons, ih, Nat.succ_mul, Nat.add_comm, List.replicate_append_replicate]
theorem zp_list (n : Nat) : (zp n).toList = pcells (List.replicate n (List.replicate 128 0)) := by
  unfold zp pcells; rw [flatten_rep]; simp
theorem zp_made (n : Nat) : madeCells (Value.agg (Array.replicate 128 (.int .u8 0))).cells (n * 128) = zp n := by
  have hc : (Value.agg (Array.replicate 128 (.int .u8 0))).cells = Array.replicate 128 (.int .u8 0) := by kernel_rfl
  rw [hc]
  unfold zp madeCells
  apply Array.ext_getElem?
  intro i
  by_cases hi : i < n * 128
  · have h2 : ((Array.replicate 128 (Value.int .u8 0))[i % 128]!) = .int .u8 0 := by rw [getElem!_pos _ _ (by simp; omega)]; simp
    simp [hi, bv, u8, h2]
  · simp [hi]
theorem run_make_pages (n : Nat) (hn : n ≤ 4096) (W : World) : (Instr.makeSlice 60 (.int .i64 (n : Int)) (.int .i64 (n : Int))).run Try.prog W = .ok (.slice (some ⟨W.heap.size, 0, none⟩) n n) (W.alloc (.cells (zp n) 64)) := by
  obtain ⟨i0, hi0, hz0, hz1, hz2⟩ := info_parts info_page
  have h := run_make (P := Try.prog) W 60 64 i0 _ Try.underlying60 hi0 hz0 .i64 .i64 (n : Int) (n : Int) (by omega) (by omega) (by rw [hz2]; omega) (by omega)
  rw [hz1] at h
  simp only [Int.toNat_natCast] at h
  rw [zp_made] at h
  exact h

/-- A new disk, which lies in new memory. -/
def NewDk (w : World) (D : DS) (e : Ending) (w' : World) : Prop :=
  ∃ d F, e = .returned (.tuple #[.pointer (some ⟨d, 0, none⟩), .int .i64 0]) ∧ Disk w' d F D ∧ Below w.heap.size w w' ∧ ∀ j ∈ F, w.heap.size ≤ j

theorem row_new (w : World) (n : Nat) (hn : n ≤ 4096) : Row (w.alloc (.cells (zp n) 64)) 64 128 (.slice (some ⟨w.heap.size, 0, none⟩) n n) n (pcells (List.replicate n (List.replicate 128 0))) := by
  have hl : (zp n).toList.length = n * 128 := by unfold zp; simp
  refine ⟨by rw [← zp_list, hl], .inr ⟨w.heap.size, n, zp n, rfl, Nat.zero_le _, heap_alloc_new w _, Nat.le_refl _, by unfold maxLen; omega, by rw [← Array.length_toList, hl], ?_⟩⟩
  rw [← zp_list, List.take_of_length_le (by omega)]
set_option maxHeartbeats 1000000 in
theorem new_c (n : Nat) (h1 : 1 ≤ n) (hn : n ≤ 4096) (w : World) :
    Calls Try.prog 11 #[.int .i64 n] w (NewDk w (dNew n)) := by
  have hm := run_make_pages n hn
  go_enter Try.func11, Try.ntmps11
  go_wp2_with fail
  clear hm
  go_ret2
  have hr := row_new w n hn
  have k : Touch [] (w.alloc (.cells (zp n) 64)) ((w.alloc (.cells (zp n) 64)).alloc (.cells #[.slice (some ⟨w.heap.size, 0, none⟩) n n, .slice none 0 0, .int .i64 (-1), .bool false] 63)) := (Touch.refl _ _).alloc _
  refine ⟨w.heap.size + 1, [w.heap.size + 1, w.heap.size], rfl, ⟨.slice (some ⟨w.heap.size, 0, none⟩) n n, .slice none 0 0, ?_, ?_, ?_, ?_, ?_, ?_, ?_, dNew_ok n⟩, ((Below.refl _ _).alloc (Nat.le_refl _) _).alloc (by simp) _, ?_⟩
  · have := Blk.new (w.alloc (.cells (zp n) 64)) 63 #[.slice (some ⟨w.heap.size, 0, none⟩) n n, .slice none 0 0, .int .i64 (-1), .bool false]
    simp only [World.size_alloc] at this; exact this
  · have := Row.touch hr k (by simp)
    simpa [dNew] using this
  · exact World.ownsRow_nil _ _ _ _
  · simp
  · intro j hj
    have e : w.heap.size = j := by injection hj
    subst e
    exact ⟨by simp, by omega⟩
  · intro j hj; cases hj
  · intro j hj; simp at hj; simp; omega
  · intro j hj; simp at hj; omega
set_option maxHeartbeats 1000000 in
theorem new_bad (n : Int) (h : n < 1 ∨ 4096 < n) (w : World) :
    Calls Try.prog 11 #[.int .i64 n] w fun e w' => e = .returned (.tuple #[.pointer none, .int .i64 2]) ∧ w = w' := by
  by_cases h1 : n < 1
  · go_enter Try.func11, Try.ntmps11
    go_wp2_with fail
    go_ret2
    exact ⟨rfl, rfl⟩
  · have h2 : 4096 < n := by omega
    have h3 : 1 ≤ n := by omega
    clear h h1
    go_enter Try.func11, Try.ntmps11
    go_wp2_with fail
    go_ret2
    exact ⟨rfl, rfl⟩
end Go.Proofs.Ytlpnichgfhgdmaa
