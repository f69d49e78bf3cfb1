/- Request, Call. -/
import Derived.Test.YtpbgelhjbfckcaaT17
import Derived.Test.YtpbgelhjbfckcaaT01
namespace Go.Proofs.Ytpbgelhjbfckcaa
open Go.ChangeShapes Go.WideShapes Go.ChangeAt Go.RowKit
set_option linter.unusedVariables false
set_option linter.unusedSimpArgs false

/-- The cells of a message of zeros with its endpoint. -/
@[irreducible] def zout : List Value := zi :: zmsg
theorem zout_def : zout = zi :: zmsg := by unfold zout; rfl
theorem zout_len : zout.length = 48 := by rw [zout_def]; rfl
theorem zout_info : (Try.prog.info? 59).map (·.zero) = some (some (.agg zout.toArray)) := by
  have h := congrArg (Option.map Prod.fst) info_out
  rw [Option.map_map] at h
  rw [zout_def]
  exact h
theorem zout_built : Try.prog.built 59 [] = some zout.toArray := by rw [zout_def]; exact built_out0
theorem zout_size : (Try.prog.info? 59).map (·.size) = some zout.toArray.size := by rw [zout_def]; exact size_out rfl
theorem zout_one : zout.toArray.all (·.oneCell') = true := by rw [zout_def]; exact one_out (by simp [zmsg, Value.oneCell'])
/-- A request that is open: kind, group, client, number, body, value. -/
def req (k g c n : Int) (b : ByteArray) (v : Int) : List Value := [.int .i64 k, .int .i64 g, .int .i64 c, .int .i64 n, zi, .string b, zi, zi, zi, zi, zi, zl, zl, zi, zi, zi, zi, .int .i64 v] ++ zmsg.drop 18
theorem req_len (k g c n : Int) (b : ByteArray) (v : Int) : (req k g c n b v).length = 47 := rfl
theorem req_one (k g c n : Int) (b : ByteArray) (v : Int) : (req k g c n b v).toArray.all (·.oneCell') = true := by simp [req, zmsg, Value.oneCell']
/-- What a call that asks leaves: the client, the message, the code. -/
structure AskV where
  st : CS
  out : List Value
  code : Int
def AskR (w : World) (g : Nat) (r : AskV) (e : Ending) (w' : World) : Prop :=
  e = .returned (.tuple #[.agg r.out.toArray, .int .i64 r.code]) ∧ (∃ q, Cl w' g r.st q) ∧ Touch [g] w w'
def opened (S : CS) (cs : List Value) : CS := { S with number := S.number + 1, opened := some (opens S cs) }
def cRequest (S : CS) (gr : Int) (b : ByteArray) : AskV :=
  if S.opened ≠ none then ⟨S, zout, 9⟩ else if gr < 0 ∨ 8 < gr then ⟨S, zout, 1⟩ else if 4096 < b.size then ⟨S, zout, 8⟩
  else ⟨opened S (req 1 gr 0 0 b 0), .int .i64 S.target :: opens S (req 1 gr 0 0 b 0), 0⟩
theorem ask_end {w W1 W2 : World} {g : Nat} {S : CS} {p : Value} {out : List Value} {c : Int} (h : Cl w g S p) (hb : Below w.heap.size w W1) (ht : Touch [w.heap.size] W1 W2) : AskR w g ⟨S, out, c⟩ (.returned (.tuple #[.agg out.toArray, .int .i64 c])) W2 := by
  have hb2 : Below w.heap.size w W2 := Below.touch hb ht (by simp) hb.size
  exact ⟨rfl, ⟨p, h.step hb2⟩, Touch.below hb2 _⟩
theorem ask_begun {w W1 W2 W3 : World} {g : Nat} {S : CS} {cs zs : List Value} (hg : g < w.heap.size) (hb : Below w.heap.size w W1) (hz : Blk W1 w.heap.size 59 zs.toArray) (ht : Touch [g] W1 W2) (hc : ∃ q, Cl W2 g { S with number := S.number + 1, opened := some (opens S cs) } q)
    (ht2 : Touch [w.heap.size] W2 W3) : AskR w g ⟨opened S cs, .int .i64 S.target :: opens S cs, 0⟩ (.returned (.tuple #[.agg (Value.int .i64 S.target :: opens S cs).toArray, .int .i64 0])) W3 := by
  obtain ⟨q, hq⟩ := hc
  refine ⟨rfl, ⟨q, hq.blk.touch ht2 (by simp; omega), hq.ok, hq.shut, fun cs' hcs' => ?_⟩, ?_⟩
  · obtain ⟨b, h1, h2, h3⟩ := hq.opened cs' hcs'
    refine ⟨b, h1, h2, h3.touch ht2 ?_⟩
    simp only [List.mem_singleton]
    rintro rfl
    have hz2 := hz.touch ht (by simp; omega)
    unfold Blk at hz2 h3
    rw [hz2] at h3
    injection h3 with h3
    injection h3 with h4 h5
    exact absurd h5 (by decide)
  · exact ((Touch.below hb [g]).next ht (by simp)).next ht2 (by simp)
theorem built_req (g : Int) (b : ByteArray) : Try.prog.built 41 [(0, .int .i64 1), (1, .int .i64 g), (5, .string b)] = some (req 1 g 0 0 b 0).toArray := by kernel_rfl
theorem built_cal (g v : Int) : Try.prog.built 41 [(0, .int .i64 9), (1, .int .i64 g), (11, .int .i64 v)] = some (req 9 g 0 0 ⟨#[]⟩ v).toArray := by kernel_rfl
def cCall (S : CS) (gr v : Int) : AskV :=
  if S.opened ≠ none then ⟨S, zout, 9⟩ else if gr < 1 ∨ 8 < gr then ⟨S, zout, 1⟩
  else ⟨opened S (req 9 gr 0 0 ⟨#[]⟩ v), .int .i64 S.target :: opens S (req 9 gr 0 0 ⟨#[]⟩ v), 0⟩
set_option maxRecDepth 100000 in
set_option maxHeartbeats 1000000 in
theorem request_c (g : Nat) (S : CS) (p : Value) (gr : Int) (b : ByteArray) (w : World) (h : Cl w g S p) (hn : S.number < 1000000) (hb : b.size ≤ maxLen) :
    Calls Try.prog 25 #[.pointer (some ⟨g, 0, none⟩), .int .i64 gr, .string b] w (AskR w g (cRequest S gr b)) := by
  have hlt := h.lt
  have hc4 := h.cells.2.2.2.2.1
  have HC := hide h
  unfold maxLen at hb
  by_cases ho : S.opened = none
  · have hp := h.shut ho
    subst hp
    unfold cRequest
    rw [if_neg (by simp [ho])]
    by_cases h1 : gr < 0
    · rw [if_pos (.inl h1)]
      clear h ho hb
      go_enter Try.func25, Try.ntmps25
      go_wp2_with (first
        | (refine wpList_alloc_blk rfl 59 rfl zout.toArray zout_info ?_; intro W1 hx1 hb1 hs1; have hk4 := (hb1.cell hlt).trans hc4; have HX1 := hide hx1; have HB1 := hide hb1; have HS1 := hide hs1; clear hx1 hb1 hs1)
        | (refine wpList_build rfl 59 #[] rfl [] (by simp) zout.toArray zout_built ?_)
        | (refine wpList_store_blk rfl 59 (.tmp 6) _ rfl w.heap.size 59 zout.toArray zout.toArray rfl rfl HX1.out rfl zout_size zout_one ?_; intro W2 hx2 ht2 hs2; have HX2 := hide hx2; have HT2 := hide ht2; clear hx2 ht2 hs2))
      refine bodyPost_ret (results_row_tmp Try.results25 _ _ w.heap.size 59 _ (0, 0) _ _ rfl rfl HX2.out Try.underlying59 rfl zout_size) rfl ?_
      exact ask_end HC.out HB1.out HT2.out
    have h1' : 0 ≤ gr := by omega
    by_cases h2 : 8 < gr
    · rw [if_pos (.inr h2)]
      clear h ho hb h1
      go_enter Try.func25, Try.ntmps25
      go_wp2_with (first
        | (refine wpList_alloc_blk rfl 59 rfl zout.toArray zout_info ?_; intro W1 hx1 hb1 hs1; have hk4 := (hb1.cell hlt).trans hc4; have HX1 := hide hx1; have HB1 := hide hb1; have HS1 := hide hs1; clear hx1 hb1 hs1)
        | (refine wpList_build rfl 59 #[] rfl [] (by simp) zout.toArray zout_built ?_)
        | (refine wpList_store_blk rfl 59 (.tmp 6) _ rfl w.heap.size 59 zout.toArray zout.toArray rfl rfl HX1.out rfl zout_size zout_one ?_; intro W2 hx2 ht2 hs2; have HX2 := hide hx2; have HT2 := hide ht2; clear hx2 ht2 hs2))
      refine bodyPost_ret (results_row_tmp Try.results25 _ _ w.heap.size 59 _ (0, 0) _ _ rfl rfl HX2.out Try.underlying59 rfl zout_size) rfl ?_
      exact ask_end HC.out HB1.out HT2.out
    have h2' : gr ≤ 8 := by omega
    rw [if_neg (by omega)]
    by_cases h3 : 4096 < b.size
    · rw [if_pos h3]
      have h3' : 4096 < (b.size : Int) := by omega
      clear h ho h1 h2 h3
      go_enter Try.func25, Try.ntmps25
      go_wp2_with (first
        | (refine wpList_alloc_blk rfl 59 rfl zout.toArray zout_info ?_; intro W1 hx1 hb1 hs1; have hk4 := (hb1.cell hlt).trans hc4; have HX1 := hide hx1; have HB1 := hide hb1; have HS1 := hide hs1; clear hx1 hb1 hs1)
        | (refine wpList_build rfl 59 #[] rfl [] (by simp) zout.toArray zout_built ?_)
        | (refine wpList_store_blk rfl 59 (.tmp 6) _ rfl w.heap.size 59 zout.toArray zout.toArray rfl rfl HX1.out rfl zout_size zout_one ?_; intro W2 hx2 ht2 hs2; have HX2 := hide hx2; have HT2 := hide ht2; clear hx2 ht2 hs2))
      refine bodyPost_ret (results_row_tmp Try.results25 _ _ w.heap.size 59 _ (0, 0) _ _ rfl rfl HX2.out Try.underlying59 rfl zout_size) rfl ?_
      exact ask_end HC.out HB1.out HT2.out
    rw [if_neg h3]
    have h3' : (b.size : Int) ≤ 4096 := by omega
    have HBC := hide (fun (X : World) (k : Below w.heap.size w X) => begin_c g S (.pointer none) (req 1 gr 0 0 b 0) X (h.step k) (req_len _ _ _ _ _ _) (req_one _ _ _ _ _ _) hn)
    have HOL : Hid ((opens S (req 1 gr 0 0 b 0)).length = 47) := hide (by simp [opens, req_len])
    have HO1 : Hid ((opens S (req 1 gr 0 0 b 0)).toArray.all (·.oneCell') = true) := hide (one_opens (req_one _ _ _ _ _ _))
    clear h ho h1 h2 h3
    go_enter Try.func25, Try.ntmps25
    go_wp2_with (first
      | (refine wpList_alloc_blk rfl 59 rfl zout.toArray zout_info ?_; intro W1 hx1 hb1 hs1; have hk4 := (hb1.cell hlt).trans hc4; have HX1 := hide hx1; have HB1 := hide hb1; have HS1 := hide hs1; clear hx1 hb1 hs1)
      | (refine wpList_build rfl 59 #[] rfl [] (by simp) zout.toArray zout_built ?_)
      | (refine wpList_store_blk rfl 59 (.tmp 6) _ rfl w.heap.size 59 zout.toArray zout.toArray rfl rfl HX1.out rfl zout_size zout_one ?_; intro W2 hx2 ht2 hs2; have HX2 := hide hx2; have HT2 := hide ht2; clear hx2 ht2 hs2))
    refine (HBC.out W1 HB1.out).mono ?_
    rintro e w1 ⟨rfl, hcl, ht⟩
    have HCL := hide hcl
    have HT := hide ht
    have HXW := hide (HX1.out.touch ht (by simp; omega))
    have HON : Hid ((Value.int .i64 S.target :: opens S (req 1 gr 0 0 b 0)).length = 48) := hide (by rw [List.length_cons, HOL.out])
    have HOS : Hid ((Try.prog.info? 59).map (·.size) = some (Value.int .i64 S.target :: opens S (req 1 gr 0 0 b 0)).toArray.size) := hide (size_out HOL.out)
    have HOO : Hid ((Value.int .i64 S.target :: opens S (req 1 gr 0 0 b 0)).toArray.all (·.oneCell') = true) := hide (one_out HO1.out)
    have HEND := hide (fun (W3 : World) (ht2 : Touch [w.heap.size] w1 W3) => ask_begun hlt HB1.out HX1.out HT.out HCL.out ht2)
    clear hcl ht HBC HCL HOL HO1
    generalize (Value.int .i64 S.target :: opens S (req 1 gr 0 0 b 0)) = os at *
    go_wp2_with (first
      | (refine wpList_store_blk rfl 59 (.tmp 6) _ rfl w.heap.size 59 zout.toArray os.toArray rfl rfl HXW.out (by rw [List.size_toArray, List.size_toArray, HON.out, zout_len]) HOS.out HOO.out ?_; intro W2 hx2 ht2 hs2; have HX2 := hide hx2; have HT2 := hide ht2; clear hx2 ht2 hs2))
    refine bodyPost_ret (results_row_tmp Try.results25 _ _ w.heap.size 59 _ (0, 0) _ _ rfl rfl HX2.out Try.underlying59 rfl HOS.out) rfl ?_
    exact HEND.out _ HT2.out
  · have hs : ∃ cs, S.opened = some cs := by cases hq : S.opened with | none => exact absurd hq ho | some cs => exact ⟨cs, rfl⟩
    obtain ⟨cs, hs⟩ := hs
    obtain ⟨b0, hne, rfl, _⟩ := h.opened cs hs
    unfold cRequest
    rw [if_pos ho]
    clear h ho hs hb
    go_enter Try.func25, Try.ntmps25
    go_wp2_with (first
      | (refine wpList_alloc_blk rfl 59 rfl zout.toArray zout_info ?_; intro W1 hx1 hb1 hs1; have hk4 := (hb1.cell hlt).trans hc4; have HX1 := hide hx1; have HB1 := hide hb1; have HS1 := hide hs1; clear hx1 hb1 hs1)
      | (refine wpList_build rfl 59 #[] rfl [] (by simp) zout.toArray zout_built ?_)
      | (refine wpList_store_blk rfl 59 (.tmp 6) _ rfl w.heap.size 59 zout.toArray zout.toArray rfl rfl HX1.out rfl zout_size zout_one ?_; intro W2 hx2 ht2 hs2; have HX2 := hide hx2; have HT2 := hide ht2; clear hx2 ht2 hs2))
    refine bodyPost_ret (results_row_tmp Try.results25 _ _ w.heap.size 59 _ (0, 0) _ _ rfl rfl HX2.out Try.underlying59 rfl zout_size) rfl ?_
    exact ask_end HC.out HB1.out HT2.out
set_option maxRecDepth 100000 in
set_option maxHeartbeats 1000000 in
theorem call_c (g : Nat) (S : CS) (p : Value) (gr v : Int) (w : World) (h : Cl w g S p) (hn : S.number < 1000000) :
    Calls Try.prog 37 #[.pointer (some ⟨g, 0, none⟩), .int .i64 gr, .int .i64 v] w (AskR w g (cCall S gr v)) := by
  have hlt := h.lt
  have hc4 := h.cells.2.2.2.2.1
  have HC := hide h
  by_cases ho : S.opened = none
  · have hp := h.shut ho
    subst hp
    unfold cCall
    rw [if_neg (by simp [ho])]
    by_cases h1 : gr < 1
    · rw [if_pos (.inl h1)]
      clear h ho
      go_enter Try.func37, Try.ntmps37
      go_wp2_with (first
        | (refine wpList_alloc_blk rfl 59 rfl zout.toArray zout_info ?_; intro W1 hx1 hb1 hs1; have hk4 := (hb1.cell hlt).trans hc4; have HX1 := hide hx1; have HB1 := hide hb1; have HS1 := hide hs1; clear hx1 hb1 hs1)
        | (refine wpList_build rfl 59 #[] rfl [] (by simp) zout.toArray zout_built ?_)
        | (refine wpList_store_blk rfl 59 (.tmp 6) _ rfl w.heap.size 59 zout.toArray zout.toArray rfl rfl HX1.out rfl zout_size zout_one ?_; intro W2 hx2 ht2 hs2; have HX2 := hide hx2; have HT2 := hide ht2; clear hx2 ht2 hs2))
      refine bodyPost_ret (results_row_tmp Try.results37 _ _ w.heap.size 59 _ (0, 0) _ _ rfl rfl HX2.out Try.underlying59 rfl zout_size) rfl ?_
      exact ask_end HC.out HB1.out HT2.out
    have h1' : 1 ≤ gr := by omega
    by_cases h2 : 8 < gr
    · rw [if_pos (.inr h2)]
      clear h ho h1
      go_enter Try.func37, Try.ntmps37
      go_wp2_with (first
        | (refine wpList_alloc_blk rfl 59 rfl zout.toArray zout_info ?_; intro W1 hx1 hb1 hs1; have hk4 := (hb1.cell hlt).trans hc4; have HX1 := hide hx1; have HB1 := hide hb1; have HS1 := hide hs1; clear hx1 hb1 hs1)
        | (refine wpList_build rfl 59 #[] rfl [] (by simp) zout.toArray zout_built ?_)
        | (refine wpList_store_blk rfl 59 (.tmp 6) _ rfl w.heap.size 59 zout.toArray zout.toArray rfl rfl HX1.out rfl zout_size zout_one ?_; intro W2 hx2 ht2 hs2; have HX2 := hide hx2; have HT2 := hide ht2; clear hx2 ht2 hs2))
      refine bodyPost_ret (results_row_tmp Try.results37 _ _ w.heap.size 59 _ (0, 0) _ _ rfl rfl HX2.out Try.underlying59 rfl zout_size) rfl ?_
      exact ask_end HC.out HB1.out HT2.out
    have h2' : gr ≤ 8 := by omega
    rw [if_neg (by omega)]
    have HBC := hide (fun (X : World) (k : Below w.heap.size w X) => begin_c g S (.pointer none) (req 9 gr 0 0 ⟨#[]⟩ v) X (h.step k) (req_len _ _ _ _ _ _) (req_one _ _ _ _ _ _) hn)
    have HOL : Hid ((opens S (req 9 gr 0 0 ⟨#[]⟩ v)).length = 47) := hide (by simp [opens, req_len])
    have HO1 : Hid ((opens S (req 9 gr 0 0 ⟨#[]⟩ v)).toArray.all (·.oneCell') = true) := hide (one_opens (req_one _ _ _ _ _ _))
    clear h ho h1 h2
    go_enter Try.func37, Try.ntmps37
    go_wp2_with (first
      | (refine wpList_alloc_blk rfl 59 rfl zout.toArray zout_info ?_; intro W1 hx1 hb1 hs1; have hk4 := (hb1.cell hlt).trans hc4; have HX1 := hide hx1; have HB1 := hide hb1; have HS1 := hide hs1; clear hx1 hb1 hs1)
      | (refine wpList_build rfl 59 #[] rfl [] (by simp) zout.toArray zout_built ?_)
      | (refine wpList_store_blk rfl 59 (.tmp 6) _ rfl w.heap.size 59 zout.toArray zout.toArray rfl rfl HX1.out rfl zout_size zout_one ?_; intro W2 hx2 ht2 hs2; have HX2 := hide hx2; have HT2 := hide ht2; clear hx2 ht2 hs2))
    refine (HBC.out W1 HB1.out).mono ?_
    rintro e w1 ⟨rfl, hcl, ht⟩
    have HCL := hide hcl
    have HT := hide ht
    have HXW := hide (HX1.out.touch ht (by simp; omega))
    have HON : Hid ((Value.int .i64 S.target :: opens S (req 9 gr 0 0 ⟨#[]⟩ v)).length = 48) := hide (by rw [List.length_cons, HOL.out])
    have HOS : Hid ((Try.prog.info? 59).map (·.size) = some (Value.int .i64 S.target :: opens S (req 9 gr 0 0 ⟨#[]⟩ v)).toArray.size) := hide (size_out HOL.out)
    have HOO : Hid ((Value.int .i64 S.target :: opens S (req 9 gr 0 0 ⟨#[]⟩ v)).toArray.all (·.oneCell') = true) := hide (one_out HO1.out)
    have HEND := hide (fun (W3 : World) (ht2 : Touch [w.heap.size] w1 W3) => ask_begun hlt HB1.out HX1.out HT.out HCL.out ht2)
    clear hcl ht HBC HCL HOL HO1
    generalize (Value.int .i64 S.target :: opens S (req 9 gr 0 0 ⟨#[]⟩ v)) = os at *
    go_wp2_with (first
      | (refine wpList_store_blk rfl 59 (.tmp 6) _ rfl w.heap.size 59 zout.toArray os.toArray rfl rfl HXW.out (by rw [List.size_toArray, List.size_toArray, HON.out, zout_len]) HOS.out HOO.out ?_; intro W2 hx2 ht2 hs2; have HX2 := hide hx2; have HT2 := hide ht2; clear hx2 ht2 hs2))
    refine bodyPost_ret (results_row_tmp Try.results37 _ _ w.heap.size 59 _ (0, 0) _ _ rfl rfl HX2.out Try.underlying59 rfl HOS.out) rfl ?_
    exact HEND.out _ HT2.out
  · have hs : ∃ cs, S.opened = some cs := by cases hq : S.opened with | none => exact absurd hq ho | some cs => exact ⟨cs, rfl⟩
    obtain ⟨cs, hs⟩ := hs
    obtain ⟨b0, hne, rfl, _⟩ := h.opened cs hs
    unfold cCall
    rw [if_pos ho]
    clear h ho hs
    go_enter Try.func37, Try.ntmps37
    go_wp2_with (first
      | (refine wpList_alloc_blk rfl 59 rfl zout.toArray zout_info ?_; intro W1 hx1 hb1 hs1; have hk4 := (hb1.cell hlt).trans hc4; have HX1 := hide hx1; have HB1 := hide hb1; have HS1 := hide hs1; clear hx1 hb1 hs1)
      | (refine wpList_build rfl 59 #[] rfl [] (by simp) zout.toArray zout_built ?_)
      | (refine wpList_store_blk rfl 59 (.tmp 6) _ rfl w.heap.size 59 zout.toArray zout.toArray rfl rfl HX1.out rfl zout_size zout_one ?_; intro W2 hx2 ht2 hs2; have HX2 := hide hx2; have HT2 := hide ht2; clear hx2 ht2 hs2))
    refine bodyPost_ret (results_row_tmp Try.results37 _ _ w.heap.size 59 _ (0, 0) _ _ rfl rfl HX2.out Try.underlying59 rfl zout_size) rfl ?_
    exact ask_end HC.out HB1.out HT2.out
end Go.Proofs.Ytpbgelhjbfckcaa
/- Retry, Open. -/
namespace Go.Proofs.Ytpbgelhjbfckcaa
open Go.ChangeShapes Go.WideShapes Go.ChangeAt Go.RowKit
set_option linter.unusedVariables false
set_option linter.unusedSimpArgs false

structure RetV where
  st : CS
  out : List Value
  is : Bool
def RetR (w : World) (g : Nat) (r : RetV) (e : Ending) (w' : World) : Prop :=
  e = .returned (.tuple #[.agg r.out.toArray, .bool r.is]) ∧ (∃ q, Cl w' g r.st q) ∧ Touch [g] w w'
def turned (S : CS) : CS := { S with target := S.target % S.machines + 1 }
def cRetry (S : CS) : RetV := match S.opened with
  | none => ⟨S, zout, false⟩
  | some cs => ⟨turned S, .int .i64 (turned S).target :: cs, true⟩
theorem ret_end {w W1 W2 : World} {g : Nat} {S : CS} {p : Value} {out : List Value} {c : Bool} (h : Cl w g S p) (hb : Below w.heap.size w W1) (ht : Touch [w.heap.size] W1 W2) : RetR w g ⟨S, out, c⟩ (.returned (.tuple #[.agg out.toArray, .bool c])) W2 := by
  have hb2 : Below w.heap.size w W2 := Below.touch hb ht (by simp) hb.size
  exact ⟨rfl, ⟨p, h.step hb2⟩, Touch.below hb2 _⟩
theorem turned_ok {S : CS} (h : S.Ok) : (turned S).Ok := by
  have h1 := h.machines
  have h2 := Int.emod_nonneg S.target (show S.machines ≠ 0 by omega)
  have h3 := Int.emod_lt_of_pos S.target (show 0 < S.machines by omega)
  exact ⟨h.id, h.machines, ⟨by show 1 ≤ S.target % S.machines + 1; omega, by show S.target % S.machines + 1 ≤ S.machines; omega⟩, h.number, h.opened⟩
theorem Cl.drew {w : World} {g : Nat} {S : CS} {p : Value} (h : Cl w g S p) : Cl w.drew g S p := ⟨h.blk.drew, h.ok, h.shut, fun cs hc => by obtain ⟨b, h1, h2, h3⟩ := h.opened cs hc; exact ⟨b, h1, h2, h3.drew⟩⟩
theorem Cl.far_of {w w' : World} {g : Nat} {S : CS} {p : Value} {L : List Nat} (h : Cl w g S p) (k : Touch L w w') (hg : g ∉ L) (hp : ∀ b, p = .pointer (some ⟨b, 0, none⟩) → b ∉ L) : Cl w' g S p :=
  ⟨h.blk.touch k hg, h.ok, h.shut, fun cs hc => by obtain ⟨b, h1, h2, h3⟩ := h.opened cs hc; exact ⟨b, h1, h2, h3.touch k (hp b h2)⟩⟩
theorem cl_turned {w : World} {g : Nat} {S : CS} {p : Value} (h : Cl w g S p) {t : Int} (ht : t = S.target % S.machines + 1) : Cl (w.setCell ⟨g, 2, none⟩ (.int .i64 t)) g (turned S) p := by
  subst ht
  exact ⟨h.blk.put 2 _, turned_ok h.ok, h.shut, fun cs hc => by obtain ⟨b, h1, h2, h3⟩ := h.opened cs hc; exact ⟨b, h1, h2, h3.far h1 _⟩⟩

set_option maxRecDepth 100000 in
set_option maxHeartbeats 1000000 in
theorem retry_c (g : Nat) (S : CS) (p : Value) (w : World) (h : Cl w g S p) :
    Calls Try.prog 18 #[.pointer (some ⟨g, 0, none⟩)] w (RetR w g (cRetry S)) := by
  have hlt := h.lt
  have hc4 := h.cells.2.2.2.2.1
  have HC := hide h
  unfold cRetry
  cases ho : S.opened with
  | none =>
    have hp := h.shut ho
    subst hp
    clear h ho
    go_enter Try.func18, Try.ntmps18
    go_wp2_with (first
      | (refine wpList_alloc_blk rfl 59 rfl zout.toArray zout_info ?_; intro W1 hx1 hb1 hs1; have hk4 := (hb1.cell hlt).trans hc4; have HX1 := hide hx1; have HB1 := hide hb1; have HS1 := hide hs1; clear hx1 hb1 hs1)
      | (refine wpList_build rfl 59 #[] rfl [] (by simp) zout.toArray zout_built ?_)
      | (refine wpList_store_blk rfl 59 (.tmp 2) _ rfl w.heap.size 59 zout.toArray zout.toArray rfl rfl HX1.out rfl zout_size zout_one ?_; intro W2 hx2 ht2 hs2; have HX2 := hide hx2; have HT2 := hide ht2; clear hx2 ht2 hs2))
    refine bodyPost_ret (results_row_tmp Try.results18 _ _ w.heap.size 59 _ (0, 0) _ _ rfl rfl HX2.out Try.underlying59 rfl zout_size) rfl ?_
    exact ret_end HC.out HB1.out HT2.out
  | some cs =>
    obtain ⟨b, hbg, rfl, hbm⟩ := h.opened cs ho
    have hl := (h.ok.opened cs ho).1
    have hone := (h.ok.opened cs ho).2
    have c1 := h.cells.2.1
    have c2 := h.cells.2.2.1
    have f2 := h.cells.2.2.2.2.2.2.2.1
    have hm := h.ok.machines
    have hT := h.ok.target
    have HO := hide ho
    have e1 : S.target.tmod S.machines = S.target % S.machines := Int.tmod_eq_emod_of_nonneg (by omega)
    have r1 := Int.emod_nonneg S.target (show S.machines ≠ 0 by omega)
    have r2 := Int.emod_lt_of_pos S.target (show 0 < S.machines by omega)
    obtain ⟨r, hr⟩ : ∃ r, S.target % S.machines = r := ⟨_, rfl⟩
    rw [hr] at e1 r1 r2
    have HR := hide hr
    have hm0 : ¬ S.machines = 0 := by omega
    generalize hM : S.machines = M at *
    generalize hTT : S.target = T at *
    have HM := hide hM
    have HTT := hide hTT
    clear h ho hbm hM hTT hr
    go_enter Try.func18, Try.ntmps18
    go_wp2_with (first
      | (refine wpList_alloc_blk rfl 59 rfl zout.toArray zout_info ?_; intro W1 hx1 hb1 hs1; have hk4 := (hb1.cell hlt).trans hc4; have hk1 := (hb1.cell hlt).trans c1; have hk2 := (hb1.cell hlt).trans c2; have hf2 := (hb1.frozen hlt).trans f2; have HX1 := hide hx1; have HB1 := hide hb1; have HS1 := hide hs1; clear hx1 hb1 hs1))
    have hw1 : IntKind.i64.wrap (r + 1) = r + 1 := IntWalk.i64_in _ (by omega)
    have HCL := hide ((cl_turned (HC.out.step HB1.out) (t := r + 1) (by rw [← HR.out, HM.out, HTT.out])).drew)
    have hkM : (W1.setCell ⟨g, 2, none⟩ (.int .i64 (r + 1))).drew.cell? ⟨g, 1, none⟩ = some (.int .i64 M) := by
      have := HCL.out.cells.2.1
      rw [show (turned S).machines = M from HM.out] at this
      exact this
    refine wp_region_held_drew (S := fun W => W.cell? ⟨g, 1, none⟩ = some (.int .i64 M)) (by kernel_rfl) (hk1) (fun hS0 => ?_)
    refine wpAnyH_take (i := 0) (v := ?vr0) rfl (by kernel_rfl) (by kernel_rfl) (by kernel_rfl) (fun _ _ _ h => h) (Or.inl ⟨by rfl, ?hyr0⟩) (by assumption) ?restr0
    case hyr0 => (intro w hSw; (try dsimp only at hSw); go_simp; first | done | (with_reducible rfl))
    try simp only [Act.put, List.getElem_toArray, List.getElem_cons_zero, List.getElem_cons_succ, List.setIfInBounds_toArray, List.set_cons_zero, List.set_cons_succ]
    refine wpAnyH_take (i := 1) (v := ?vr1) rfl (by kernel_rfl) (by kernel_rfl) (by kernel_rfl) (fun _ _ _ h => h) (Or.inl ⟨by rfl, ?hyr1⟩) (by assumption) ?restr1
    case hyr1 => (intro w hSw; (try dsimp only at hSw); go_simp; first | done | (with_reducible rfl))
    try simp only [Act.put, List.getElem_toArray, List.getElem_cons_zero, List.getElem_cons_succ, List.setIfInBounds_toArray, List.set_cons_zero, List.set_cons_succ]
    refine wpAnyH_take (i := 2) (v := ?vr2) rfl (by kernel_rfl) (by kernel_rfl) (by kernel_rfl) (fun _ _ _ h => h) (Or.inl ⟨by rfl, ?hyr2⟩) (by assumption) ?restr2
    case hyr2 => (intro w hSw; (try dsimp only at hSw); go_simp; first | done | (with_reducible rfl))
    try simp only [Act.put, List.getElem_toArray, List.getElem_cons_zero, List.getElem_cons_succ, List.setIfInBounds_toArray, List.set_cons_zero, List.set_cons_succ]
    refine wpAnyH_take (i := 3) (v := ?vr3) rfl (by kernel_rfl) (by kernel_rfl) (by kernel_rfl) (fun _ _ _ h => h) (Or.inl ⟨by rfl, ?hyr3⟩) (by assumption) ?restr3
    case hyr3 => (intro w hSw; (try dsimp only at hSw); go_simp; first | done | (with_reducible rfl))
    try simp only [Act.put, List.getElem_toArray, List.getElem_cons_zero, List.getElem_cons_succ, List.setIfInBounds_toArray, List.set_cons_zero, List.set_cons_succ]
    refine wpAnyH_take (i := 5) (v := ?vr4) rfl (by kernel_rfl) (by kernel_rfl) (by kernel_rfl) (fun _ _ _ h => h) (Or.inl ⟨by rfl, ?hyr4⟩) (by assumption) ?restr4
    case hyr4 => (intro w hSw; (try dsimp only at hSw); go_simp; first | done | (with_reducible rfl))
    try simp only [Act.put, List.getElem_toArray, List.getElem_cons_zero, List.getElem_cons_succ, List.setIfInBounds_toArray, List.set_cons_zero, List.set_cons_succ]
    refine wpAnyH_take (i := 6) (v := ?vr5) rfl (by kernel_rfl) (by kernel_rfl) (by kernel_rfl) (fun _ _ _ h => h) (Or.inl ⟨by rfl, ?hyr5⟩) (by assumption) ?restr5
    case hyr5 => (intro w hSw; (try dsimp only at hSw); go_simp; first | done | (with_reducible rfl))
    try simp only [Act.put, List.getElem_toArray, List.getElem_cons_zero, List.getElem_cons_succ, List.setIfInBounds_toArray, List.set_cons_zero, List.set_cons_succ]
    refine wpAnyH_take (i := 7) (v := ?vr6) rfl (by kernel_rfl) (by kernel_rfl) (by kernel_rfl) (fun _ _ _ h => h) (Or.inl ⟨by rfl, ?hyr6⟩) (by assumption) ?restr6
    case hyr6 => (intro w hSw; (try dsimp only at hSw); go_simp; first | done | (with_reducible rfl))
    try simp only [Act.put, List.getElem_toArray, List.getElem_cons_zero, List.getElem_cons_succ, List.setIfInBounds_toArray, List.set_cons_zero, List.set_cons_succ]
    refine wpAnyH_take (i := 8) (v := ?vr7) rfl (by kernel_rfl) (by kernel_rfl) (by kernel_rfl) (fun _ _ _ h => h) (Or.inl ⟨by rfl, ?hyr7⟩) (by assumption) ?restr7
    case hyr7 => (intro w hSw; (try dsimp only at hSw); go_simp; first | done | (with_reducible rfl))
    try simp only [Act.put, List.getElem_toArray, List.getElem_cons_zero, List.getElem_cons_succ, List.setIfInBounds_toArray, List.set_cons_zero, List.set_cons_succ]
    refine wpAnyH_ready (rs := [4]) (by kernel_rfl) (by simp) ?_
    refine AllReadyH.cons rfl (fun K hK => ?_) AllReadyH.nil
    go_simp
    refine hK.out _ _ (hk1) (fun hS8 => ?_)
    clear hK K
    try simp only [Act.put, List.getElem_toArray, List.getElem_cons_zero, List.getElem_cons_succ, List.setIfInBounds_toArray, List.set_cons_zero, List.set_cons_succ]
    refine wpAnyH_take (i := 9) (v := ?vr9) rfl (by kernel_rfl) (by kernel_rfl) (by kernel_rfl) (fun _ _ _ h => h) (Or.inl ⟨by rfl, ?hyr9⟩) (by assumption) ?restr9
    case hyr9 => (intro w hSw; (try dsimp only at hSw); go_simp; first | done | (with_reducible rfl))
    try simp only [Act.put, List.getElem_toArray, List.getElem_cons_zero, List.getElem_cons_succ, List.setIfInBounds_toArray, List.set_cons_zero, List.set_cons_succ]
    refine wpAnyH_take (i := 10) (v := ?vr10) rfl (by kernel_rfl) (by kernel_rfl) (by kernel_rfl) (fun _ _ _ h => h) (Or.inl ⟨by rfl, ?hyr10⟩) (by assumption) ?restr10
    case hyr10 => (intro w hSw; (try dsimp only at hSw); go_simp; first | done | (with_reducible rfl))
    try simp only [Act.put, List.getElem_toArray, List.getElem_cons_zero, List.getElem_cons_succ, List.setIfInBounds_toArray, List.set_cons_zero, List.set_cons_succ]
    refine wpAnyH_take (i := 11) (v := ?vr11) rfl (by kernel_rfl) (by kernel_rfl) (by kernel_rfl) (fun _ _ _ h => h) (Or.inl ⟨by rfl, ?hyr11⟩) (by assumption) ?restr11
    case hyr11 => (intro w hSw; (try dsimp only at hSw); go_simp; first | done | (with_reducible rfl))
    try simp only [Act.put, List.getElem_toArray, List.getElem_cons_zero, List.getElem_cons_succ, List.setIfInBounds_toArray, List.set_cons_zero, List.set_cons_succ]
    refine wpAnyH_take (i := 12) (v := ?vr12) rfl (by kernel_rfl) (by kernel_rfl) (by kernel_rfl) (fun _ _ _ h => h) (Or.inl ⟨by rfl, ?hyr12⟩) (by assumption) ?restr12
    case hyr12 => (intro w hSw; (try dsimp only at hSw); go_simp; first | done | (with_reducible rfl))
    try simp only [Act.put, List.getElem_toArray, List.getElem_cons_zero, List.getElem_cons_succ, List.setIfInBounds_toArray, List.set_cons_zero, List.set_cons_succ]
    refine wpAnyH_ready (rs := [13]) (by kernel_rfl) (by simp) ?_
    refine AllReadyH.cons rfl (fun K hK => ?_) AllReadyH.nil
    go_simp
    refine hK.out _ _ (hkM) (fun hS13 => ?_)
    clear hK K
    try simp only [Act.put, List.getElem_toArray, List.getElem_cons_zero, List.getElem_cons_succ, List.setIfInBounds_toArray, List.set_cons_zero, List.set_cons_succ]
    refine wpAnyH_done (by kernel_rfl) ?_ _
    have HTU : Hid (r + 1 = (turned S).target) := hide (by show r + 1 = S.target % S.machines + 1; rw [HM.out, HTT.out, HR.out])
    have HTW : Hid (Touch [g] W1 (W1.setCell ⟨g, 2, none⟩ (.int .i64 (r + 1))).drew) := hide (((Touch.refl [g] W1).set (by simp) 2 _).drew)
    have HXW := hide (HX1.out.touch HTW.out (by simp; omega))
    obtain ⟨W2, hW2⟩ : ∃ W2, W2 = (W1.setCell ⟨g, 2, none⟩ (.int .i64 (r + 1))).drew := ⟨_, rfl⟩
    rw [← hW2] at HCL HTW HXW ⊢
    have HSND := hide (send_c g (turned S) (.pointer (some ⟨b, 0, none⟩)) cs W2 HCL.out HO.out)
    rw [← HTU.out] at HSND
    clear hW2 hkM hw1 hS8 hS13 hk1 hk2 hk4 hf2 hS0
    go_wp2_with fail
    refine HSND.out.mono ?_
    rintro e W3 ⟨rfl, hb3⟩
    have HB3 := hide hb3
    have HX3 := hide (HXW.out.step hb3)
    clear hb3 HSND
    go_wp2_with (first
      | (refine wpList_store_blk rfl 59 (.tmp 2) _ rfl w.heap.size 59 zout.toArray (.int .i64 (r + 1) :: cs).toArray rfl rfl HX3.out (by simp [hl, zout_len]) (size_out hl) (one_out hone) ?_; intro W4 hx4 ht4 hs4; have HX4 := hide hx4; have HT4 := hide ht4; clear hx4 ht4 hs4))
    refine bodyPost_ret (results_row_tmp Try.results18 _ _ w.heap.size 59 _ (0, 0) _ _ rfl rfl HX4.out Try.underlying59 rfl (size_out hl)) rfl ?_
    have hne : b ≠ w.heap.size := by
      obtain ⟨b', _, hp', hb'⟩ := HC.out.opened cs HO.out
      have := hb'.lt
      injection hp' with hp'
      injection hp' with hp'
      injection hp' with hp1
      omega
    rw [← HTU.out]
    refine ⟨rfl, ⟨.pointer (some ⟨b, 0, none⟩), (HCL.out.step HB3.out).far_of HT4.out (by simp; omega) (fun b' hb' => by injection hb' with hb'; injection hb' with hb'; injection hb' with hb'; simp; omega)⟩, ?_⟩
    exact (((Touch.below HB1.out [g]).trans HTW.out).step HB3.out).next HT4.out (by simp)

/-- What Open hands back. -/
def openOf (S : CS) : List Value × Bool := match S.opened with
  | none => (zmsg, false)
  | some cs => (cs, true)
end Go.Proofs.Ytpbgelhjbfckcaa
/- Open; answers. -/
namespace Go.Proofs.Ytpbgelhjbfckcaa
open Go.ChangeShapes Go.WideShapes Go.ChangeAt Go.RowKit
set_option linter.unusedVariables false
set_option linter.unusedSimpArgs false

@[irreducible] def zmsgI : List Value := zmsg
theorem zmsgI_def : zmsgI = zmsg := by unfold zmsgI; rfl
theorem zmsgI_len : zmsgI.length = 47 := by rw [zmsgI_def]; rfl
theorem zmsgI_info : (Try.prog.info? 41).map (·.zero) = some (some (.agg zmsgI.toArray)) := by
  have h := congrArg (Option.map Prod.fst) info_msg
  rw [Option.map_map] at h
  rw [zmsgI_def]
  exact h
theorem zmsgI_built : Try.prog.built 41 [] = some zmsgI.toArray := by rw [zmsgI_def]; exact built_zero
theorem zmsgI_one : zmsgI.toArray.all (·.oneCell') = true := by rw [zmsgI_def]; simp [zmsg, Value.oneCell']
def OpenR (w : World) (S : CS) (e : Ending) (w' : World) : Prop := e = .returned (.tuple #[.agg (openOf S).1.toArray, .bool (openOf S).2]) ∧ Below w.heap.size w w'

set_option maxRecDepth 100000 in
set_option maxHeartbeats 1000000 in
theorem open_c (g : Nat) (S : CS) (p : Value) (w : World) (h : Cl w g S p) :
    Calls Try.prog 13 #[.pointer (some ⟨g, 0, none⟩)] w (OpenR w S) := by
  have hlt := h.lt
  have hc4 := h.cells.2.2.2.2.1
  have HC := hide h
  unfold OpenR openOf
  cases ho : S.opened with
  | none =>
    have hp := h.shut ho
    subst hp
    clear h ho
    dsimp only
    rw [← zmsgI_def]
    go_enter Try.func13, Try.ntmps13
    go_wp2_with (first
      | (refine wpList_alloc_blk rfl 41 rfl zmsgI.toArray zmsgI_info ?_; intro W1 hx1 hb1 hs1; have hk4 := (hb1.cell hlt).trans hc4; have HX1 := hide hx1; have HB1 := hide hb1; have HS1 := hide hs1; clear hx1 hb1 hs1)
      | (refine wpList_build rfl 41 #[] rfl [] (by simp) zmsgI.toArray zmsgI_built ?_)
      | (refine wpList_store_blk rfl 41 (.tmp 2) _ rfl w.heap.size 41 zmsgI.toArray zmsgI.toArray rfl rfl HX1.out rfl (size_msg zmsgI_len) zmsgI_one ?_; intro W2 hx2 ht2 hs2; have HX2 := hide hx2; have HT2 := hide ht2; clear hx2 ht2 hs2))
    refine bodyPost_ret (results_row_tmp Try.results13 _ _ w.heap.size 41 _ (0, 0) _ _ rfl rfl HX2.out Try.underlying41 rfl (size_msg zmsgI_len)) rfl ?_
    exact ⟨rfl, Below.touch HB1.out HT2.out (by simp) HB1.out.size⟩
  | some cs =>
    obtain ⟨b, hbg, rfl, hbm⟩ := h.opened cs ho
    have hl := (h.ok.opened cs ho).1
    have hone := (h.ok.opened cs ho).2
    have HBM := hide hbm
    clear h ho hbm
    dsimp only
    go_enter Try.func13, Try.ntmps13
    go_wp2_with (first
      | (refine wpList_alloc_blk rfl 41 rfl zmsgI.toArray zmsgI_info ?_; intro W1 hx1 hb1 hs1; have hk4 := (hb1.cell hlt).trans hc4; have HX1 := hide hx1; have HB1 := hide hb1; have HS1 := hide hs1; have HB2 := hide (HBM.out.step hb1); clear hx1 hb1 hs1)
      | (refine wpList_load_blk rfl 41 (.tmp 14) rfl b 41 cs.toArray _ rfl HB2.out Try.underlying41 rfl (size_msg hl) ?_)
      | (refine wpList_store_blk rfl 41 (.tmp 2) _ rfl w.heap.size 41 zmsgI.toArray cs.toArray rfl rfl HX1.out (by simp [hl, zmsgI_len]) (size_msg hl) hone ?_; intro W2 hx2 ht2 hs2; have HX2 := hide hx2; have HT2 := hide ht2; clear hx2 ht2 hs2))
    refine bodyPost_ret (results_row_tmp Try.results13 _ _ w.heap.size 41 _ (0, 0) _ _ rfl rfl HX2.out Try.underlying41 rfl (size_msg hl)) rfl ?_
    exact ⟨rfl, Below.touch HB1.out HT2.out (by simp) HB1.out.size⟩
end Go.Proofs.Ytpbgelhjbfckcaa
