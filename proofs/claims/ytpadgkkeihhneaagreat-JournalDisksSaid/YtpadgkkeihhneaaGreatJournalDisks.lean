/- JournalDisks: for every input the law answers true, and every argument reads afterwards as it read before. No further condition. -/
import Derived.Test.YtpadgkkeihhneaaGreatC50
namespace Go.Proofs.YtpadgkkeihhneaaGreat.lawJournalDisks
open Go.ChangeShapes Go.WideShapes Go.ChangeAt Go.RowKit
set_option maxRecDepth 100000 in
theorem lifted (os : Os) (started : os.Started) (H : Type) (enc : TypeId × Value → H) :
 ReturnsInHanded {} Tryz.checked os 3 .any (Rows.journalDisksSpec.pre6 enc Tryz.prog Tryz.f3 Rows.journalDisksRow.domain false) (Rows.journalDisksSpec.post enc Tryz.prog Tryz.f3 false true false false) := by
 refine returnsInHanded_of_change (C := Tryz.checked) own_knob started (by kernel_rfl) Tryz.func3
  (ChangeSpec.witness6 (enc := enc) (C := Tryz.checked) false ⟨#[], #[.slice none 0 0, .slice none 0 0], []⟩ 8 (by kernel_rfl) (by kernel_rfl) (by kernel_rfl) (by kernel_rfl)) ?_
 intro W base args ds gs before hval0 hW _ _
 refine law_contract (P := Tryz.prog) laid_out (fun t ht => by rw [Tryz.params3] at ht; revert t; decide +kernel) (tb := 4) rfl Tryz.underlying4 rfl (fun xs h => by match xs, h with | [d0, d1], _ => rfl) hW ?_
 have hval : ∀ (j : Nat) t v, Tryz.f3.params[j]? = some t → args[j]? = some v → Value.okWide Tryz.prog W .any base t v := hval0
 clear hval0
 obtain ⟨p, q, hA0, hV, rfl, hfz, hnd⟩ := hW
 have hA : DataW.TrodAll enc Tryz.prog W 0 (fun _ => true) true Tryz.f3.params.toList args.toList ds p := hA0
 clear hA0 hV hfz hnd
 rw [Tryz.params3] at hA hval
 obtain ⟨v0, vs0, d0, ds0, p0, q0, hargs, rfl, rfl, h0, r0⟩ := trodAll_cons hA
 obtain ⟨v1, vs1, d1, ds1, p1, q1, rfl, rfl, rfl, h1, r1⟩ := trodAll_cons r0
 obtain ⟨rfl, rfl, rfl⟩ := trodAll_nil r1
 obtain rfl : args = #[v0, v1] := by cases args; simp_all
 obtain ⟨a0, w0⟩ := open_bss (hval 0 22 v0 rfl rfl) h0
 obtain ⟨a1, w1⟩ := open_pops (hval 1 23 v1 rfl rfl) h1
 exact walkJournalDisks W v0 a0 w0 v1 a1 w1
theorem over : Rows.journalDisksRow.holds Tryz.pinned (OpenSpec.ofChange Rows.journalDisksSpec) :=
 OpenClaim.holds_of_wide 3 Tryz.f3 rfl rfl rfl rfl rfl rfl rfl ⟨rfl, rfl, rfl, rfl, rfl⟩ rfl rfl rfl rfl rfl (by kernel_rfl) Tryz.func3 (by kernel_rfl)
  (of_decide_eq_true (by kernel_rfl)) (by unfold Func.isWrapper; first | (rw [if_pos (by decide +kernel)]; kernel_rfl) | (rw [if_neg (by decide +kernel)]; exact ⟨rfl, rfl⟩))
  (fun os started H enc _ => lifted os started H enc)
theorem proved : Rows.JournalDisksSaid :=
 over
#print axioms proved
end Go.Proofs.YtpadgkkeihhneaaGreat.lawJournalDisks
