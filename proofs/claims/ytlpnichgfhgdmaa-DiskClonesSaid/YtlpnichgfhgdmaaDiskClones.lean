/- DiskClones: for every input the law answers true, and every argument reads afterwards as it read before. No further condition. -/
import Derived.Test.YtlpnichgfhgdmaaClones
namespace Go.Proofs.Ytlpnichgfhgdmaa.lawDiskClones
open Go.ChangeShapes Go.WideShapes Go.ChangeAt Go.RowKit

set_option maxRecDepth 100000 in
theorem lifted (os : Os) (started : os.Started) (H : Type) (enc : TypeId × Value → H) :
    ReturnsInHanded {} Try.checked os 7 .any (Rows.diskClonesSpec.pre6 enc Try.prog Try.f7 Rows.diskClonesRow.domain false) (Rows.diskClonesSpec.post enc Try.prog Try.f7 false true false false) := by
  refine returnsInHanded_of_change (C := Try.checked) own_knob started (by kernel_rfl) Try.func7
    (ChangeSpec.witness6 (enc := enc) (C := Try.checked) false ⟨#[], #[.slice none 0 0, .slice none 0 0], []⟩ 8 (by kernel_rfl) (by kernel_rfl) (by kernel_rfl) (by kernel_rfl)) ?_
  intro W base args ds gs before hval0 hW _ _
  refine law_contract (P := Try.prog) laid_out (fun t ht => by rw [Try.params7] at ht; revert t; decide +kernel) (tb := 4) rfl Try.underlying4 rfl (fun xs h => by match xs, h with | [d0, d1], _ => rfl) hW ?_
  have hval : ∀ (j : Nat) t v, Try.f7.params[j]? = some t → args[j]? = some v → Value.okWide Try.prog W .any base t v := hval0
  clear hval0
  obtain ⟨p, q, hA0, hV, rfl, hfz, hnd⟩ := hW
  have hA : DataW.TrodAll enc Try.prog W 0 (fun _ => true) true Try.f7.params.toList args.toList ds p := hA0
  clear hA0 hV hfz hnd
  rw [Try.params7] at hA hval
  obtain ⟨v0, vs0, d0, ds0, p0, q0, hargs, rfl, rfl, h0, r0⟩ := trodAll_cons hA
  obtain ⟨v1, vs1, d1, ds1, p1, q1, rfl, rfl, rfl, h1, r1⟩ := trodAll_cons r0
  obtain ⟨rfl, rfl, rfl⟩ := trodAll_nil r1
  obtain rfl : args = #[v0, v1] := by cases args; simp_all
  obtain ⟨a0, w0⟩ := open_ops (hval 0 39 v0 rfl rfl) h0
  obtain ⟨a1, w1⟩ := open_ops (hval 1 39 v1 rfl rfl) h1
  exact walkDiskClones W v0 a0 w0 v1 a1 w1

theorem over : Rows.diskClonesRow.holds Try.pinned (OpenSpec.ofChange Rows.diskClonesSpec) :=
  OpenClaim.holds_of_wide 7 Try.f7 rfl rfl rfl rfl rfl rfl rfl ⟨rfl, rfl, rfl, rfl, rfl⟩ rfl rfl rfl rfl rfl (by kernel_rfl) Try.func7 (by kernel_rfl)
    (of_decide_eq_true (by kernel_rfl)) (by unfold Func.isWrapper; first | (rw [if_pos (by decide +kernel)]; kernel_rfl) | (rw [if_neg (by decide +kernel)]; exact ⟨rfl, rfl⟩))
    (fun os started H enc _ => lifted os started H enc)

theorem proved : Rows.DiskClonesSaid :=
  over
#print axioms proved
end Go.Proofs.Ytlpnichgfhgdmaa.lawDiskClones
