/- Small functions of the journal. -/
import Derived.Test.YtpadgkkeihhneaaGreatC03
import Derived.Test.YtpadgkkeihhneaaGreatC04
import Derived.Lib.MinMax
namespace Go.Proofs.YtpadgkkeihhneaaGreat
set_option maxRecDepth 100000
set_option linter.unusedSimpArgs false
set_option linter.unusedVariables false
open Go.ChangeShapes Go.WideShapes Go.ChangeAt Go.RowKit
theorem ret_i64e {a b : Int} (h : a = b) : Ending.returned (.int .i64 a) = .returned (.int .i64 b) := by rw [h]
set_option maxHeartbeats 1000000 in
theorem pages_fn (n : Nat) (hn : n ≤ 1000000000) (w : World) : Calls Tryz.prog 37 #[.int .i64 n] w fun e w' => e = .returned (.int .i64 (pagesN n)) ∧ w = w' := by
 obtain ⟨z, hz⟩ : ∃ z : Int, z = (n : Int) := ⟨_, rfl⟩
 have h0 : 0 ≤ z := by omega
 have h1 : z ≤ 1000000000 := by omega
 have HZ := hide hz
 rw [← hz]
 clear hz hn
 go_enter Tryz.func37, Tryz.ntmps37
 go_wp2_with fail
 go_ret
 refine ⟨ret_i64e ?_, rfl⟩
 have := HZ.out
 unfold pagesN
 omega
/-- The journal's block names its disk. -/
structure Hd (w : World) (g d : Nat) (F : List Nat) (D : DS) : Prop where
 cell : w.cell? ⟨g, 0, none⟩ = some (.pointer (some ⟨d, 0, none⟩))
 disk : Disk w d F D
structure DS.Sz (D : DS) : Prop where
 lo : 8 ≤ D.pages.length
 hi : D.pages.length ≤ 1000000
 pend : D.pend.length ≤ 100000
set_option maxHeartbeats 1000000 in
theorem half_c (g d : Nat) (F : List Nat) (D : DS) (w : World) (h : Hd w g d F D) (hs : D.Sz) :
 Calls Tryz.prog 69 #[.pointer (some ⟨g, 0, none⟩)] w fun e w' => e = .returned (.int .i64 (half D)) ∧ w = w' := by
 have hc := h.cell
 have HC := hide (pages_c d F D w h.disk)
 have hlo := hs.lo
 have hhi := hs.hi
 unfold half
 clear h hs
 generalize D.pages.length = n at *
 go_enter Tryz.func69, Tryz.ntmps69
 go_wp2_with fail
 refine HC.out.mono ?_
 rintro e w' ⟨rfl, rfl⟩
 go_wp2_with fail
 go_ret
 refine ⟨ret_i64e ?_, rfl⟩
 omega
set_option maxHeartbeats 1000000 in
theorem first_c (g d : Nat) (F : List Nat) (D : DS) (t : Nat) (ht : t ≤ 1099511629000) (w : World) (h : Hd w g d F D) (hs : D.Sz) :
 Calls Tryz.prog 81 #[.pointer (some ⟨g, 0, none⟩), .int .i64 t] w fun e w' => e = .returned (.int .i64 (first D t)) ∧ w = w' := by
 have HC := hide (half_c g d F D w h hs)
 have hhi : half D ≤ 1000000 := by have := hs.hi; unfold half; omega
 unfold first
 clear h hs
 generalize half D = n at *
 obtain ⟨r, hr⟩ : ∃ r, t % 2 = r := ⟨_, rfl⟩
 have hr2 : r < 2 := by omega
 have HR := hide hr
 rw [hr]
 clear hr
 go_enter Tryz.func81, Tryz.ntmps81
 go_wp2_with fail
 refine HC.out.mono ?_
 rintro e w' ⟨rfl, rfl⟩
 go_wp2_with fail
 go_ret
 refine ⟨ret_i64e ?_, rfl⟩
 have e : (t : Int) % 2 = r := by have := HR.out; omega
 rw [e]
 rcases (show r = 0 ∨ r = 1 by omega) with rfl | rfl
 ·show wrap64 (2 + wrap64 (0 * (n : Int))) = _
  rw [Int.zero_mul]
  unfold wrap64; omega
 ·show wrap64 (2 + wrap64 (1 * (n : Int))) = _
  rw [Int.one_mul]
  unfold wrap64; omega
end Go.Proofs.YtpadgkkeihhneaaGreat
