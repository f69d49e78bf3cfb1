/- JournalCrashes: for every input the law answers true, and every argument reads afterwards as it read before. No further condition. -/
import Derived.Test.YtpadgkkeihhneaaGreatC45
namespace Go.Proofs.YtpadgkkeihhneaaGreat.lawJournalCrashes
open Go.ChangeShapes Go.WideShapes Go.ChangeAt Go.RowKit
set_option maxRecDepth 100000 in
theorem lifted (os : Os) (started : os.Started) (H : Type) (enc : TypeId × Value → H) :
 ReturnsInHanded {} Tryz.checked os 5 .any (Rows.journalCrashesSpec.pre6 enc Tryz.prog Tryz.f5 Rows.journalCrashesRow.domain false) (Rows.journalCrashesSpec.post enc Tryz.prog Tryz.f5 false true false false) := by
 refine returnsInHanded_of_change (C := Tryz.checked) own_knob started (by kernel_rfl) Tryz.func5
  (ChangeSpec.witness6 (enc := enc) (C := Tryz.checked) false ⟨#[], #[.int .u8 0, .slice none 0 0, .agg #[.int .i64 0, .int .i64 0, .int .i64 0, .int .u8 0, .slice none 0 0], .slice none 0 0], []⟩ 8 (by kernel_rfl) (by kernel_rfl) (by kernel_rfl) (by kernel_rfl)) ?_
 intro W base args ds gs before hval0 hW _ _
 refine law_contract (P := Tryz.prog) laid_out (fun t ht => by rw [Tryz.params5] at ht; revert t; decide +kernel) (tb := 4) rfl Tryz.underlying4 rfl (fun xs h => by match xs, h with | [d0, d1, d2, d3], _ => rfl) hW ?_
 have hval : ∀ (j : Nat) t v, Tryz.f5.params[j]? = some t → args[j]? = some v → Value.okWide Tryz.prog W .any base t v := hval0
 clear hval0
 obtain ⟨p, q, hA0, hV, rfl, hfz, hnd⟩ := hW
 have hA : DataW.TrodAll enc Tryz.prog W 0 (fun _ => true) true Tryz.f5.params.toList args.toList ds p := hA0
 clear hA0 hV hfz hnd
 rw [Tryz.params5] at hA hval
 obtain ⟨v0, vs0, d0, ds0, p0, q0, hargs, rfl, rfl, h0, r0⟩ := trodAll_cons hA
 obtain ⟨v1, vs1, d1, ds1, p1, q1, rfl, rfl, rfl, h1, r1⟩ := trodAll_cons r0
 obtain ⟨v2, vs2, d2, ds2, p2, q2, rfl, rfl, rfl, h2, r2⟩ := trodAll_cons r1
 obtain ⟨v3, vs3, d3, ds3, p3, q3, rfl, rfl, rfl, h3, r3⟩ := trodAll_cons r2
 obtain ⟨rfl, rfl, rfl⟩ := trodAll_nil r3
 obtain rfl : args = #[v0, v1, v2, v3] := by cases args; simp_all
 obtain ⟨a0, rfl, rfl, rfl, w0⟩ := open_int Tryz.underlying5 (hval 0 5 v0 rfl rfl) h0
 obtain ⟨a1, w1⟩ := open_pops (hval 1 23 v1 rfl rfl) h1
 obtain ⟨a2, w2⟩ := open_pop1 (hval 2 42 v2 rfl rfl) h2
 obtain ⟨a3, w3⟩ := open_is1 (hval 3 40 v3 rfl rfl) h3
 exact walkJournalCrashes W a0 w0 v1 a1 w1 v2 a2 w2 v3 a3 w3
theorem over : Rows.journalCrashesRow.holds Tryz.pinned (OpenSpec.ofChange Rows.journalCrashesSpec) :=
 OpenClaim.holds_of_wide 5 Tryz.f5 rfl rfl rfl rfl rfl rfl rfl ⟨rfl, rfl, rfl, rfl, rfl⟩ rfl rfl rfl rfl rfl (by kernel_rfl) Tryz.func5 (by kernel_rfl)
  (of_decide_eq_true (by kernel_rfl)) (by unfold Func.isWrapper; first | (rw [if_pos (by decide +kernel)]; kernel_rfl) | (rw [if_neg (by decide +kernel)]; exact ⟨rfl, rfl⟩))
  (fun os started H enc _ => lifted os started H enc)
theorem proved : Rows.JournalCrashesSaid :=
 over
#print axioms proved
end Go.Proofs.YtpadgkkeihhneaaGreat.lawJournalCrashes
