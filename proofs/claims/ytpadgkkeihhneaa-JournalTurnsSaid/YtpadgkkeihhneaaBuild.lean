/- Building a pending write: a struct of an integer and an array of 128 bytes; a slice of one of these. -/
import Derived.Test.YtpadgkkeihhneaaPart04
import Derived.Great.FillDense
import Derived.Great.BuildSlice
namespace Go.Proofs.Ytpadgkkeihhneaa
set_option maxRecDepth 100000
set_option linter.unusedSimpArgs false
set_option linter.unusedVariables false
open Go.ChangeShapes Go.WideShapes Go.ChangeAt Go.RowKit
set_option linter.unusedVariables false

theorem info_write : (Try.prog.info? 81).map (fun i => (i.zero, i.size, i.bytes)) = some (some (.agg (#[.int .i64 0] ++ Array.replicate 128 (.int .u8 0))), 129, 136) := by kernel_rfl

theorem fill_two (Z : Array Value) (hZ : Z.size = 129) (n : Int) (cs : List Value) (h : cs.length = 128) (place : Nat → Option (Nat × Nat)) (p0 : place 0 = some (0, 1)) (p1 : place 1 = some (1, 128)) :
    Instr.fill place Z [(0, .int .i64 n), (1, .agg cs.toArray)] = some (.int .i64 n :: cs).toArray := by
  have e1 : (Value.int .i64 n).cells = #[.int .i64 n] := rfl
  have e2 : (Value.agg cs.toArray).cells = cs.toArray := rfl
  simp only [Instr.fill, p0, p1, e1, e2]
  have f0 := Go.Great.foldl_set 0 [.int .i64 n] 0 Z
  generalize hz1 : ((#[Value.int .i64 n].zipIdx).foldl (fun cs (x : Value × Nat) => cs.setIfInBounds (0 + x.2) x.1) Z) = Z1
  have hz1' : (([Value.int .i64 n].zipIdx 0).foldl (fun cs (x : Value × Nat) => cs.setIfInBounds (0 + x.2) x.1) Z) = Z1 := by rw [← hz1]; simp
  rw [hz1'] at f0
  have f1 := Go.Great.foldl_set 1 cs 0 Z1
  generalize hz2 : ((cs.toArray.zipIdx).foldl (fun cs (x : Value × Nat) => cs.setIfInBounds (1 + x.2) x.1) Z1) = Z2
  have hz2' : ((cs.zipIdx 0).foldl (fun cs (x : Value × Nat) => cs.setIfInBounds (1 + x.2) x.1) Z1) = Z2 := by rw [← hz2]; simp
  rw [hz2'] at f1
  rw [if_neg (by simp [hZ]), if_neg (by simp [f0.1, hZ, h])]
  congr 1
  apply Array.ext_getElem?
  intro i
  rw [f1.2 i]
  rcases Nat.eq_zero_or_pos i with rfl | hi
  · rw [if_neg (by omega), f0.2 0, if_pos (by simp [hZ])]; rfl
  · obtain ⟨j, rfl⟩ : ∃ j, i = j + 1 := ⟨i - 1, by omega⟩
    by_cases hj : j < 128
    · rw [if_pos (by rw [f0.1, hZ]; omega)]
      simp
    · rw [if_neg (by omega), Array.getElem?_eq_none (by rw [f0.1, hZ]; omega), Array.getElem?_eq_none (by simp; omega)]

theorem run_build_write (n : Int) (cs : List Value) (h : cs.length = 128) (w : World) :
    (Instr.build 81 #[(0, .int .i64 n), (1, .agg cs.toArray)]).run Try.prog w = .ok (.agg (.int .i64 n :: cs).toArray) w := by
  apply run_build
  obtain ⟨i0, hi0, hz0, hz1, hz2⟩ := info_parts info_write
  unfold Program.built
  rw [hi0, Try.underlying81]
  simp only [hz0]
  have hp : ∀ fs, Try.prog.underlying 81 = some (.struct fs) → (fs.toList.mapM (fun f => (Try.prog.info? f.type).map fun i => (f.offset, i.size))) = some [(0, 1), (1, 128)] := by
    intro fs hfs
    rw [Try.underlying81] at hfs
    injection hfs with hfs
    injection hfs with hfs
    subst hfs
    kernel_rfl
  rw [hp _ Try.underlying81]
  exact fill_two _ (by simp [Value.cells]) n cs h _ rfl rfl
theorem run_buildSlice_write (cs : List Value) (h : cs.length = 129) (w : World) :
    (Instr.buildSlice 46 1 #[(0, .agg cs.toArray)]).run Try.prog w = .ok (.slice (some ⟨w.heap.size, 0, none⟩) 1 1) (w.alloc (.cells cs.toArray 81)) := by
  obtain ⟨i0, hi0, hz0, hz1, hz2⟩ := info_parts info_write
  refine run_buildSlice w 46 81 1 _ cs.toArray i0 _ Try.underlying46 hi0 hz0 (by rw [hz1]; decide) (by rw [hz1]; decide) ?_
  rw [hz1]
  have e2 : (Value.agg cs.toArray).cells = cs.toArray := rfl
  simp only [Instr.fill, e2]
  generalize hZ : ((Array.range (1 * 129)).map _) = Z
  have hZs : Z.size = 129 := by rw [← hZ]; simp
  have f1 := Go.Great.foldl_set 0 cs 0 Z
  generalize hz2 : ((cs.toArray.zipIdx).foldl (fun cs (x : Value × Nat) => cs.setIfInBounds (0 * 129 + x.2) x.1) Z) = Z2
  have hz2' : ((cs.zipIdx 0).foldl (fun cs (x : Value × Nat) => cs.setIfInBounds (0 + x.2) x.1) Z) = Z2 := by rw [← hz2]; simp
  rw [hz2'] at f1
  rw [if_neg (by simp [hZs, h])]
  congr 1
  apply Array.ext_getElem?
  intro i
  rw [f1.2 i]
  by_cases hi : i < 129
  · rw [if_pos (by rw [hZs]; omega)]; simp
  · rw [if_neg (by omega), Array.getElem?_eq_none (by omega), Array.getElem?_eq_none (by simp; omega)]
end Go.Proofs.Ytpadgkkeihhneaa
