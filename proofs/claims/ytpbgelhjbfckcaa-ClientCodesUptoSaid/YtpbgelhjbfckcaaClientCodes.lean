/- ClientCodes: for every input of bulk at most 1048576 the law answers true, and the argument reads afterwards as it read before. No further condition. -/
import Derived.Test.YtpbgelhjbfckcaaV38
import Derived.Test.YtpbgelhjbfckcaaV39
import Derived.JoinedCond
namespace Go.Proofs.Ytpbgelhjbfckcaa.lawClientCodes
open Go.ChangeShapes Go.WideShapes Go.ChangeAt Go.RowKit
set_option maxRecDepth 100000 in
theorem lifted (os : Os) (started : os.Started) (H : Type) (enc : TypeId × Value → H) (F : Stop.Interp) :
 ReturnsInHanded {} Try.checked os 7 .any ((Rows.OpenSpec.upto Rows.clientCodesSpec).pre6 enc Try.prog Try.f7 Rows.clientCodesUptoRow.domain false) (((Rows.OpenSpec.upto Rows.clientCodesSpec).at F).post enc Try.prog Try.f7 false true false false) := by
 refine returnsInHanded_of_cond (C := Try.checked) (s := Rows.OpenSpec.upto Rows.clientCodesSpec) (k := Rows.uptoSmall) rfl own_knob started (by kernel_rfl) Try.func7
  (OpenSpec.witness (enc := enc) (C := Try.checked) (s := Rows.OpenSpec.upto Rows.clientCodesSpec) (k := Rows.uptoSmall) rfl false ⟨#[], #[.agg zmsg.toArray], []⟩ 8 (by kernel_rfl) (by kernel_rfl) (by kernel_rfl)
   (x := ([.agg [.lit (.int .i64 0), .lit (.int .i64 0), .lit (.int .i64 0), .lit (.int .i64 0), .lit (.int .i64 0), .lit (.string []), .lit (.int .i64 0), .lit (.int .i64 0), .lit (.int .i64 0), .agg [.lit (.int .i64 0), .lit (.int .i64 0), .nil, .nil], .agg [.lit (.int .i64 0), .lit (.int .i64 0), .lit (.int .i64 0), .lit (.int .i64 0)], .lit (.int .i64 0),
    .agg [.lit (.int .i64 0), .lit (.int .i64 0), .lit (.int .i64 0), .lit (.int .i64 0), .lit (.int .i64 0), .lit (.int .i64 0), .lit (.int .i64 0), .lit (.int .i64 0), .agg [.nil, .nil, .nil], .agg [.nil, .nil, .nil], .nil], .nil,
    .agg [.lit (.int .i64 0), .lit (.int .i64 0), .lit (.int .i64 0), .lit (.int .i64 0), .lit (.int .i64 0), .lit (.int .i64 0), .lit (.int .i64 0), .lit (.int .i64 0), .lit (.bool false), .nil, .lit (.int .i64 0), .lit (.string []), .lit (.bool false)]]], [], [])) (by kernel_rfl) rfl (by kernel_rfl)) ?_
 intro W base args ds gs before hval0 hW _ hk _
 refine law_contract (P := Try.prog) laid_out (fun t ht => by rw [Try.params7] at ht; revert t; decide +kernel) (tb := 4) rfl Try.underlying4 rfl (fun xs h => by match xs, h with | [d0], _ => rfl) hW ?_
 have hval : ∀ (j : Nat) t v, Try.f7.params[j]? = some t → args[j]? = some v → Value.okWide Try.prog W .any base t v := hval0
 have hsum : Rows.uptoBulkAll (ds ++ gs) ≤ 1048576 := of_decide_eq_true hk
 clear hval0 hk
 obtain ⟨p, q, hA0, hV, rfl, hfz, hnd⟩ := hW
 have hA : DataW.TrodAll enc Try.prog W 0 (fun _ => true) true Try.f7.params.toList args.toList ds p := hA0
 clear hA0 hV hfz hnd
 rw [Try.params7] at hA hval
 obtain ⟨v0, vs0, d0, ds0, p0, q0, hargs, rfl, rfl, h0, r0⟩ := trodAll_cons hA
 obtain ⟨rfl, rfl, rfl⟩ := trodAll_nil r0
 obtain rfl : args = #[v0] := by cases args; simp_all
 have hb : Rows.uptoBulk d0 ≤ 1048576 := by
  simp only [List.cons_append, List.nil_append, Rows.uptoBulkAll] at hsum
  omega
 obtain ⟨a0, m0, e0, w0, s0⟩ := open_msg hb (hval 0 41 v0 rfl rfl) h0
 exact walkClientCodes W v0 a0 m0 e0 w0 s0
theorem over : Rows.clientCodesUptoRow.holds Try.pinned (Rows.OpenSpec.upto Rows.clientCodesSpec) :=
 OpenClaim.holds_of_cond 7 Try.f7 rfl rfl rfl rfl rfl rfl rfl ⟨rfl, rfl, rfl, rfl, rfl⟩ rfl rfl rfl rfl rfl (by kernel_rfl) Try.func7 (by kernel_rfl)
  (of_decide_eq_true (by kernel_rfl)) (by unfold Func.isWrapper; first | (rw [if_pos (by decide +kernel)]; kernel_rfl) | (rw [if_neg (by decide +kernel)]; exact ⟨rfl, rfl⟩))
  (fun os started H enc _ F => lifted os started H enc F)
theorem proved : Rows.ClientCodesUptoSaid :=
 over
#print axioms proved
end Go.Proofs.Ytpbgelhjbfckcaa.lawClientCodes
