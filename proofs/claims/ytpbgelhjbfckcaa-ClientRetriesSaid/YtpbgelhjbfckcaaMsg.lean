/- Messages between hosts and clients as rows of cells: their zero, and how one is built. -/
import Derived.Test.YtpbgelhjbfckcaaStore
import Derived.Great.FillDense
namespace Go.Proofs.Ytpbgelhjbfckcaa
open Go.ChangeShapes Go.WideShapes Go.ChangeAt Go.RowKit
set_option linter.unusedVariables false

abbrev zi : Value := .int .i64 0
abbrev zs : Value := .string ⟨#[]⟩
abbrev zl : Value := .slice none 0 0
abbrev zb0 : Value := .bool false
/-- The cells of a message of zeros. -/
def zmsg : List Value := [zi, zi, zi, zi, zi, zs, zi, zi, zi, zi, zi, zl, zl, zi, zi, zi, zi, zi, zi, zi, zi, zi, zi, zi, zi, zi, zl, zl, zl, zl, zl, zl, zl, zl, zi, zi, zi, zi, zi, zi, zi, zi, zb0, zl, zi, zs, zb0]
theorem zmsg_len : zmsg.length = 47 := rfl

theorem info_msg : (Try.prog.info? 41).map (fun i => (i.zero, i.size)) = some (some (.agg zmsg.toArray), 47) := by kernel_rfl
theorem info_out : (Try.prog.info? 59).map (fun i => (i.zero, i.size)) = some (some (.agg (zi :: zmsg).toArray), 48) := by kernel_rfl
theorem info_client : (Try.prog.info? 74).map (fun i => (i.zero, i.size)) = some (some (.agg #[zi, zi, zi, zi, .pointer none]), 5) := by kernel_rfl

/-- The message of Request, of Call; the messages of the example. -/
theorem built_request (g : Int) (b : ByteArray) : Try.prog.built 41 [(0, .int .i64 1), (1, .int .i64 g), (5, .string b)] = some (((zmsg.set 0 (.int .i64 1)).set 1 (.int .i64 g)).set 5 (.string b)).toArray := by kernel_rfl
theorem built_call (g v : Int) : Try.prog.built 41 [(0, .int .i64 9), (1, .int .i64 g), (11, .int .i64 v)] = some (((zmsg.set 0 (.int .i64 9)).set 1 (.int .i64 g)).set 17 (.int .i64 v)).toArray := by kernel_rfl
theorem built_zero : Try.prog.built 41 [] = some zmsg.toArray := by kernel_rfl
theorem built_out0 : Try.prog.built 59 [] = some (zi :: zmsg).toArray := by kernel_rfl
theorem built_client (a b : Int) : Try.prog.built 74 [(0, .int .i64 a), (1, .int .i64 b), (2, .int .i64 1)] = some #[.int .i64 a, .int .i64 b, .int .i64 1, zi, .pointer none] := by kernel_rfl

theorem fill_out (Z : Array Value) (hZ : Z.size = 48) (n : Int) (cs : List Value) (h : cs.length = 47) (place : Nat → Option (Nat × Nat)) (p0 : place 0 = some (0, 1)) (p1 : place 1 = some (1, 47)) :
    Instr.fill place Z [(0, .int .i64 n), (1, .agg cs.toArray)] = some (.int .i64 n :: cs).toArray := by
  have e1 : (Value.int .i64 n).cells = #[.int .i64 n] := rfl
  have e2 : (Value.agg cs.toArray).cells = cs.toArray := rfl
  simp only [Instr.fill, p0, p1, e1, e2]
  have f0 := Go.Great.foldl_set 0 [.int .i64 n] 0 Z
  generalize hz1 : ((#[Value.int .i64 n].zipIdx).foldl (fun cs (x : Value × Nat) => cs.setIfInBounds (0 + x.2) x.1) Z) = Z1
  have hz1' : (([Value.int .i64 n].zipIdx 0).foldl (fun cs (x : Value × Nat) => cs.setIfInBounds (0 + x.2) x.1) Z) = Z1 := by rw [← hz1]; simp
  rw [hz1'] at f0
  have f1 := Go.Great.foldl_set 1 cs 0 Z1
  generalize hz2 : ((cs.toArray.zipIdx).foldl (fun cs (x : Value × Nat) => cs.setIfInBounds (1 + x.2) x.1) Z1) = Z2
  have hz2' : ((cs.zipIdx 0).foldl (fun cs (x : Value × Nat) => cs.setIfInBounds (1 + x.2) x.1) Z1) = Z2 := by rw [← hz2]; simp
  rw [hz2'] at f1
  rw [if_neg (by simp [hZ]), if_neg (by simp [f0.1, hZ, h])]
  congr 1
  apply Array.ext_getElem?
  intro i
  rw [f1.2 i]
  rcases Nat.eq_zero_or_pos i with rfl | hi
  · rw [if_neg (by omega), f0.2 0, if_pos (by simp [hZ])]; rfl
  · obtain ⟨j, rfl⟩ : ∃ j, i = j + 1 := ⟨i - 1, by omega⟩
    by_cases hj : j < 47
    · rw [if_pos (by rw [f0.1, hZ]; omega)]
      simp
    · rw [if_neg (by omega), Array.getElem?_eq_none (by rw [f0.1, hZ]; omega), Array.getElem?_eq_none (by simp; omega)]
set_option maxRecDepth 100000 in
/-- A message with its endpoint. -/
theorem built_out (n : Int) (cs : List Value) (h : cs.length = 47) : Try.prog.built 59 [(0, .int .i64 n), (1, .agg cs.toArray)] = some (.int .i64 n :: cs).toArray := by
  have hI := info_out
  obtain ⟨i0, hi0, hz⟩ := Option.map_eq_some_iff.mp hI
  injection hz with hz0 hz1
  unfold Program.built
  rw [hi0, Try.underlying59]
  simp only [hz0]
  have hp : ∀ fs, Try.prog.underlying 59 = some (.struct fs) → (fs.toList.mapM (fun f => (Try.prog.info? f.type).map fun i => (f.offset, i.size))) = some [(0, 1), (1, 47)] := by
    intro fs hfs
    rw [Try.underlying59] at hfs
    injection hfs with hfs
    injection hfs with hfs
    subst hfs
    kernel_rfl
  rw [hp _ Try.underlying59]
  exact fill_out _ (by simp [Value.cells, zmsg]) n cs h _ rfl rfl
end Go.Proofs.Ytpbgelhjbfckcaa
