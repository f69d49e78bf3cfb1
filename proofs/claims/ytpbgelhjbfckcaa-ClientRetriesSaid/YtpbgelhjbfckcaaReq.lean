/- Request, Call. -/
import Derived.Test.YtpbgelhjbfckcaaBegin
import Derived.Test.YtpbgelhjbfckcaaRow
namespace Go.Proofs.Ytpbgelhjbfckcaa
open Go.ChangeShapes Go.WideShapes Go.ChangeAt Go.RowKit
set_option linter.unusedVariables false
set_option linter.unusedSimpArgs false

/-- The cells of a message of zeros with its endpoint. -/
@[irreducible] def zout : List Value := zi :: zmsg
theorem zout_def : zout = zi :: zmsg := by unfold zout; rfl
theorem zout_len : zout.length = 48 := by rw [zout_def]; rfl
theorem zout_info : (Try.prog.info? 59).map (·.zero) = some (some (.agg zout.toArray)) := by
  have h := congrArg (Option.map Prod.fst) info_out
  rw [Option.map_map] at h
  rw [zout_def]
  exact h
theorem zout_built : Try.prog.built 59 [] = some zout.toArray := by rw [zout_def]; exact built_out0
theorem zout_size : (Try.prog.info? 59).map (·.size) = some zout.toArray.size := by rw [zout_def]; exact size_out rfl
theorem zout_one : zout.toArray.all (·.oneCell') = true := by rw [zout_def]; exact one_out (by simp [zmsg, Value.oneCell'])
/-- A request that is open: kind, group, client, number, body, value. -/
def req (k g c n : Int) (b : ByteArray) (v : Int) : List Value := [.int .i64 k, .int .i64 g, .int .i64 c, .int .i64 n, zi, .string b, zi, zi, zi, zi, zi, zl, zl, zi, zi, zi, zi, .int .i64 v] ++ zmsg.drop 18
theorem req_len (k g c n : Int) (b : ByteArray) (v : Int) : (req k g c n b v).length = 47 := rfl
theorem req_one (k g c n : Int) (b : ByteArray) (v : Int) : (req k g c n b v).toArray.all (·.oneCell') = true := by simp [req, zmsg, Value.oneCell']
/-- What a call that asks leaves: the client, the message, the code. -/
structure AskV where
  st : CS
  out : List Value
  code : Int
def AskR (w : World) (g : Nat) (r : AskV) (e : Ending) (w' : World) : Prop :=
  e = .returned (.tuple #[.agg r.out.toArray, .int .i64 r.code]) ∧ (∃ q, Cl w' g r.st q) ∧ Touch [g] w w'
def opened (S : CS) (cs : List Value) : CS := { S with number := S.number + 1, opened := some (opens S cs) }
def cRequest (S : CS) (gr : Int) (b : ByteArray) : AskV :=
  if S.opened ≠ none then ⟨S, zout, 9⟩ else if gr < 0 ∨ 8 < gr then ⟨S, zout, 1⟩ else if 4096 < b.size then ⟨S, zout, 8⟩
  else ⟨opened S (req 1 gr 0 0 b 0), .int .i64 S.target :: opens S (req 1 gr 0 0 b 0), 0⟩
theorem ask_end {w W1 W2 : World} {g : Nat} {S : CS} {p : Value} {out : List Value} {c : Int} (h : Cl w g S p) (hb : Below w.heap.size w W1) (ht : Touch [w.heap.size] W1 W2) : AskR w g ⟨S, out, c⟩ (.returned (.tuple #[.agg out.toArray, .int .i64 c])) W2 := by
  have hb2 : Below w.heap.size w W2 := Below.touch hb ht (by simp) hb.size
  exact ⟨rfl, ⟨p, h.step hb2⟩, Touch.below hb2 _⟩
theorem ask_begun {w W1 W2 W3 : World} {g : Nat} {S : CS} {cs zs : List Value} (hg : g < w.heap.size) (hb : Below w.heap.size w W1) (hz : Blk W1 w.heap.size 59 zs.toArray) (ht : Touch [g] W1 W2) (hc : ∃ q, Cl W2 g { S with number := S.number + 1, opened := some (opens S cs) } q)
    (ht2 : Touch [w.heap.size] W2 W3) : AskR w g ⟨opened S cs, .int .i64 S.target :: opens S cs, 0⟩ (.returned (.tuple #[.agg (Value.int .i64 S.target :: opens S cs).toArray, .int .i64 0])) W3 := by
  obtain ⟨q, hq⟩ := hc
  refine ⟨rfl, ⟨q, hq.blk.touch ht2 (by simp; omega), hq.ok, hq.shut, fun cs' hcs' => ?_⟩, ?_⟩
  · obtain ⟨b, h1, h2, h3⟩ := hq.opened cs' hcs'
    refine ⟨b, h1, h2, h3.touch ht2 ?_⟩
    simp only [List.mem_singleton]
    rintro rfl
    have hz2 := hz.touch ht (by simp; omega)
    unfold Blk at hz2 h3
    rw [hz2] at h3
    injection h3 with h3
    injection h3 with h4 h5
    exact absurd h5 (by decide)
  · exact ((Touch.below hb [g]).next ht (by simp)).next ht2 (by simp)
theorem built_req (g : Int) (b : ByteArray) : Try.prog.built 41 [(0, .int .i64 1), (1, .int .i64 g), (5, .string b)] = some (req 1 g 0 0 b 0).toArray := by kernel_rfl
theorem built_cal (g v : Int) : Try.prog.built 41 [(0, .int .i64 9), (1, .int .i64 g), (11, .int .i64 v)] = some (req 9 g 0 0 ⟨#[]⟩ v).toArray := by kernel_rfl
def cCall (S : CS) (gr v : Int) : AskV :=
  if S.opened ≠ none then ⟨S, zout, 9⟩ else if gr < 1 ∨ 8 < gr then ⟨S, zout, 1⟩
  else ⟨opened S (req 9 gr 0 0 ⟨#[]⟩ v), .int .i64 S.target :: opens S (req 9 gr 0 0 ⟨#[]⟩ v), 0⟩
set_option maxRecDepth 100000 in
set_option maxHeartbeats 1000000 in
theorem request_c (g : Nat) (S : CS) (p : Value) (gr : Int) (b : ByteArray) (w : World) (h : Cl w g S p) (hn : S.number < 1000000) (hb : b.size ≤ maxLen) :
    Calls Try.prog 25 #[.pointer (some ⟨g, 0, none⟩), .int .i64 gr, .string b] w (AskR w g (cRequest S gr b)) := by
  have hlt := h.lt
  have hc4 := h.cells.2.2.2.2.1
  have HC := hide h
  unfold maxLen at hb
  by_cases ho : S.opened = none
  · have hp := h.shut ho
    subst hp
    unfold cRequest
    rw [if_neg (by simp [ho])]
    by_cases h1 : gr < 0
    · rw [if_pos (.inl h1)]
      clear h ho hb
      go_enter Try.func25, Try.ntmps25
      go_wp2_with (first
        | (refine wpList_alloc_blk rfl 59 rfl zout.toArray zout_info ?_; intro W1 hx1 hb1 hs1; have hk4 := (hb1.cell hlt).trans hc4; have HX1 := hide hx1; have HB1 := hide hb1; have HS1 := hide hs1; clear hx1 hb1 hs1)
        | (refine wpList_build rfl 59 #[] rfl [] (by simp) zout.toArray zout_built ?_)
        | (refine wpList_store_blk rfl 59 (.tmp 6) _ rfl w.heap.size 59 zout.toArray zout.toArray rfl rfl HX1.out rfl zout_size zout_one ?_; intro W2 hx2 ht2 hs2; have HX2 := hide hx2; have HT2 := hide ht2; clear hx2 ht2 hs2))
      refine bodyPost_ret (results_row_tmp Try.results25 _ _ w.heap.size 59 _ (0, 0) _ _ rfl rfl HX2.out Try.underlying59 rfl zout_size) rfl ?_
      exact ask_end HC.out HB1.out HT2.out
    have h1' : 0 ≤ gr := by omega
    by_cases h2 : 8 < gr
    · rw [if_pos (.inr h2)]
      clear h ho hb h1
      go_enter Try.func25, Try.ntmps25
      go_wp2_with (first
        | (refine wpList_alloc_blk rfl 59 rfl zout.toArray zout_info ?_; intro W1 hx1 hb1 hs1; have hk4 := (hb1.cell hlt).trans hc4; have HX1 := hide hx1; have HB1 := hide hb1; have HS1 := hide hs1; clear hx1 hb1 hs1)
        | (refine wpList_build rfl 59 #[] rfl [] (by simp) zout.toArray zout_built ?_)
        | (refine wpList_store_blk rfl 59 (.tmp 6) _ rfl w.heap.size 59 zout.toArray zout.toArray rfl rfl HX1.out rfl zout_size zout_one ?_; intro W2 hx2 ht2 hs2; have HX2 := hide hx2; have HT2 := hide ht2; clear hx2 ht2 hs2))
      refine bodyPost_ret (results_row_tmp Try.results25 _ _ w.heap.size 59 _ (0, 0) _ _ rfl rfl HX2.out Try.underlying59 rfl zout_size) rfl ?_
      exact ask_end HC.out HB1.out HT2.out
    have h2' : gr ≤ 8 := by omega
    rw [if_neg (by omega)]
    by_cases h3 : 4096 < b.size
    · rw [if_pos h3]
      have h3' : 4096 < (b.size : Int) := by omega
      clear h ho h1 h2 h3
      go_enter Try.func25, Try.ntmps25
      go_wp2_with (first
        | (refine wpList_alloc_blk rfl 59 rfl zout.toArray zout_info ?_; intro W1 hx1 hb1 hs1; have hk4 := (hb1.cell hlt).trans hc4; have HX1 := hide hx1; have HB1 := hide hb1; have HS1 := hide hs1; clear hx1 hb1 hs1)
        | (refine wpList_build rfl 59 #[] rfl [] (by simp) zout.toArray zout_built ?_)
        | (refine wpList_store_blk rfl 59 (.tmp 6) _ rfl w.heap.size 59 zout.toArray zout.toArray rfl rfl HX1.out rfl zout_size zout_one ?_; intro W2 hx2 ht2 hs2; have HX2 := hide hx2; have HT2 := hide ht2; clear hx2 ht2 hs2))
      refine bodyPost_ret (results_row_tmp Try.results25 _ _ w.heap.size 59 _ (0, 0) _ _ rfl rfl HX2.out Try.underlying59 rfl zout_size) rfl ?_
      exact ask_end HC.out HB1.out HT2.out
    rw [if_neg h3]
    have h3' : (b.size : Int) ≤ 4096 := by omega
    have HBC := hide (fun (X : World) (k : Below w.heap.size w X) => begin_c g S (.pointer none) (req 1 gr 0 0 b 0) X (h.step k) (req_len _ _ _ _ _ _) (req_one _ _ _ _ _ _) hn)
    have HOL : Hid ((opens S (req 1 gr 0 0 b 0)).length = 47) := hide (by simp [opens, req_len])
    have HO1 : Hid ((opens S (req 1 gr 0 0 b 0)).toArray.all (·.oneCell') = true) := hide (one_opens (req_one _ _ _ _ _ _))
    clear h ho h1 h2 h3
    go_enter Try.func25, Try.ntmps25
    go_wp2_with (first
      | (refine wpList_alloc_blk rfl 59 rfl zout.toArray zout_info ?_; intro W1 hx1 hb1 hs1; have hk4 := (hb1.cell hlt).trans hc4; have HX1 := hide hx1; have HB1 := hide hb1; have HS1 := hide hs1; clear hx1 hb1 hs1)
      | (refine wpList_build rfl 59 #[] rfl [] (by simp) zout.toArray zout_built ?_)
      | (refine wpList_store_blk rfl 59 (.tmp 6) _ rfl w.heap.size 59 zout.toArray zout.toArray rfl rfl HX1.out rfl zout_size zout_one ?_; intro W2 hx2 ht2 hs2; have HX2 := hide hx2; have HT2 := hide ht2; clear hx2 ht2 hs2))
    refine (HBC.out W1 HB1.out).mono ?_
    rintro e w1 ⟨rfl, hcl, ht⟩
    have HCL := hide hcl
    have HT := hide ht
    have HXW := hide (HX1.out.touch ht (by simp; omega))
    have HON : Hid ((Value.int .i64 S.target :: opens S (req 1 gr 0 0 b 0)).length = 48) := hide (by rw [List.length_cons, HOL.out])
    have HOS : Hid ((Try.prog.info? 59).map (·.size) = some (Value.int .i64 S.target :: opens S (req 1 gr 0 0 b 0)).toArray.size) := hide (size_out HOL.out)
    have HOO : Hid ((Value.int .i64 S.target :: opens S (req 1 gr 0 0 b 0)).toArray.all (·.oneCell') = true) := hide (one_out HO1.out)
    have HEND := hide (fun (W3 : World) (ht2 : Touch [w.heap.size] w1 W3) => ask_begun hlt HB1.out HX1.out HT.out HCL.out ht2)
    clear hcl ht HBC HCL HOL HO1
    generalize (Value.int .i64 S.target :: opens S (req 1 gr 0 0 b 0)) = os at *
    go_wp2_with (first
      | (refine wpList_store_blk rfl 59 (.tmp 6) _ rfl w.heap.size 59 zout.toArray os.toArray rfl rfl HXW.out (by rw [List.size_toArray, List.size_toArray, HON.out, zout_len]) HOS.out HOO.out ?_; intro W2 hx2 ht2 hs2; have HX2 := hide hx2; have HT2 := hide ht2; clear hx2 ht2 hs2))
    refine bodyPost_ret (results_row_tmp Try.results25 _ _ w.heap.size 59 _ (0, 0) _ _ rfl rfl HX2.out Try.underlying59 rfl HOS.out) rfl ?_
    exact HEND.out _ HT2.out
  · have hs : ∃ cs, S.opened = some cs := by cases hq : S.opened with | none => exact absurd hq ho | some cs => exact ⟨cs, rfl⟩
    obtain ⟨cs, hs⟩ := hs
    obtain ⟨b0, hne, rfl, _⟩ := h.opened cs hs
    unfold cRequest
    rw [if_pos ho]
    clear h ho hs hb
    go_enter Try.func25, Try.ntmps25
    go_wp2_with (first
      | (refine wpList_alloc_blk rfl 59 rfl zout.toArray zout_info ?_; intro W1 hx1 hb1 hs1; have hk4 := (hb1.cell hlt).trans hc4; have HX1 := hide hx1; have HB1 := hide hb1; have HS1 := hide hs1; clear hx1 hb1 hs1)
      | (refine wpList_build rfl 59 #[] rfl [] (by simp) zout.toArray zout_built ?_)
      | (refine wpList_store_blk rfl 59 (.tmp 6) _ rfl w.heap.size 59 zout.toArray zout.toArray rfl rfl HX1.out rfl zout_size zout_one ?_; intro W2 hx2 ht2 hs2; have HX2 := hide hx2; have HT2 := hide ht2; clear hx2 ht2 hs2))
    refine bodyPost_ret (results_row_tmp Try.results25 _ _ w.heap.size 59 _ (0, 0) _ _ rfl rfl HX2.out Try.underlying59 rfl zout_size) rfl ?_
    exact ask_end HC.out HB1.out HT2.out
set_option maxRecDepth 100000 in
set_option maxHeartbeats 1000000 in
theorem call_c (g : Nat) (S : CS) (p : Value) (gr v : Int) (w : World) (h : Cl w g S p) (hn : S.number < 1000000) :
    Calls Try.prog 37 #[.pointer (some ⟨g, 0, none⟩), .int .i64 gr, .int .i64 v] w (AskR w g (cCall S gr v)) := by
  have hlt := h.lt
  have hc4 := h.cells.2.2.2.2.1
  have HC := hide h
  by_cases ho : S.opened = none
  · have hp := h.shut ho
    subst hp
    unfold cCall
    rw [if_neg (by simp [ho])]
    by_cases h1 : gr < 1
    · rw [if_pos (.inl h1)]
      clear h ho
      go_enter Try.func37, Try.ntmps37
      go_wp2_with (first
        | (refine wpList_alloc_blk rfl 59 rfl zout.toArray zout_info ?_; intro W1 hx1 hb1 hs1; have hk4 := (hb1.cell hlt).trans hc4; have HX1 := hide hx1; have HB1 := hide hb1; have HS1 := hide hs1; clear hx1 hb1 hs1)
        | (refine wpList_build rfl 59 #[] rfl [] (by simp) zout.toArray zout_built ?_)
        | (refine wpList_store_blk rfl 59 (.tmp 6) _ rfl w.heap.size 59 zout.toArray zout.toArray rfl rfl HX1.out rfl zout_size zout_one ?_; intro W2 hx2 ht2 hs2; have HX2 := hide hx2; have HT2 := hide ht2; clear hx2 ht2 hs2))
      refine bodyPost_ret (results_row_tmp Try.results37 _ _ w.heap.size 59 _ (0, 0) _ _ rfl rfl HX2.out Try.underlying59 rfl zout_size) rfl ?_
      exact ask_end HC.out HB1.out HT2.out
    have h1' : 1 ≤ gr := by omega
    by_cases h2 : 8 < gr
    · rw [if_pos (.inr h2)]
      clear h ho h1
      go_enter Try.func37, Try.ntmps37
      go_wp2_with (first
        | (refine wpList_alloc_blk rfl 59 rfl zout.toArray zout_info ?_; intro W1 hx1 hb1 hs1; have hk4 := (hb1.cell hlt).trans hc4; have HX1 := hide hx1; have HB1 := hide hb1; have HS1 := hide hs1; clear hx1 hb1 hs1)
        | (refine wpList_build rfl 59 #[] rfl [] (by simp) zout.toArray zout_built ?_)
        | (refine wpList_store_blk rfl 59 (.tmp 6) _ rfl w.heap.size 59 zout.toArray zout.toArray rfl rfl HX1.out rfl zout_size zout_one ?_; intro W2 hx2 ht2 hs2; have HX2 := hide hx2; have HT2 := hide ht2; clear hx2 ht2 hs2))
      refine bodyPost_ret (results_row_tmp Try.results37 _ _ w.heap.size 59 _ (0, 0) _ _ rfl rfl HX2.out Try.underlying59 rfl zout_size) rfl ?_
      exact ask_end HC.out HB1.out HT2.out
    have h2' : gr ≤ 8 := by omega
    rw [if_neg (by omega)]
    have HBC := hide (fun (X : World) (k : Below w.heap.size w X) => begin_c g S (.pointer none) (req 9 gr 0 0 ⟨#[]⟩ v) X (h.step k) (req_len _ _ _ _ _ _) (req_one _ _ _ _ _ _) hn)
    have HOL : Hid ((opens S (req 9 gr 0 0 ⟨#[]⟩ v)).length = 47) := hide (by simp [opens, req_len])
    have HO1 : Hid ((opens S (req 9 gr 0 0 ⟨#[]⟩ v)).toArray.all (·.oneCell') = true) := hide (one_opens (req_one _ _ _ _ _ _))
    clear h ho h1 h2
    go_enter Try.func37, Try.ntmps37
    go_wp2_with (first
      | (refine wpList_alloc_blk rfl 59 rfl zout.toArray zout_info ?_; intro W1 hx1 hb1 hs1; have hk4 := (hb1.cell hlt).trans hc4; have HX1 := hide hx1; have HB1 := hide hb1; have HS1 := hide hs1; clear hx1 hb1 hs1)
      | (refine wpList_build rfl 59 #[] rfl [] (by simp) zout.toArray zout_built ?_)
      | (refine wpList_store_blk rfl 59 (.tmp 6) _ rfl w.heap.size 59 zout.toArray zout.toArray rfl rfl HX1.out rfl zout_size zout_one ?_; intro W2 hx2 ht2 hs2; have HX2 := hide hx2; have HT2 := hide ht2; clear hx2 ht2 hs2))
    refine (HBC.out W1 HB1.out).mono ?_
    rintro e w1 ⟨rfl, hcl, ht⟩
    have HCL := hide hcl
    have HT := hide ht
    have HXW := hide (HX1.out.touch ht (by simp; omega))
    have HON : Hid ((Value.int .i64 S.target :: opens S (req 9 gr 0 0 ⟨#[]⟩ v)).length = 48) := hide (by rw [List.length_cons, HOL.out])
    have HOS : Hid ((Try.prog.info? 59).map (·.size) = some (Value.int .i64 S.target :: opens S (req 9 gr 0 0 ⟨#[]⟩ v)).toArray.size) := hide (size_out HOL.out)
    have HOO : Hid ((Value.int .i64 S.target :: opens S (req 9 gr 0 0 ⟨#[]⟩ v)).toArray.all (·.oneCell') = true) := hide (one_out HO1.out)
    have HEND := hide (fun (W3 : World) (ht2 : Touch [w.heap.size] w1 W3) => ask_begun hlt HB1.out HX1.out HT.out HCL.out ht2)
    clear hcl ht HBC HCL HOL HO1
    generalize (Value.int .i64 S.target :: opens S (req 9 gr 0 0 ⟨#[]⟩ v)) = os at *
    go_wp2_with (first
      | (refine wpList_store_blk rfl 59 (.tmp 6) _ rfl w.heap.size 59 zout.toArray os.toArray rfl rfl HXW.out (by rw [List.size_toArray, List.size_toArray, HON.out, zout_len]) HOS.out HOO.out ?_; intro W2 hx2 ht2 hs2; have HX2 := hide hx2; have HT2 := hide ht2; clear hx2 ht2 hs2))
    refine bodyPost_ret (results_row_tmp Try.results37 _ _ w.heap.size 59 _ (0, 0) _ _ rfl rfl HX2.out Try.underlying59 rfl HOS.out) rfl ?_
    exact HEND.out _ HT2.out
  · have hs : ∃ cs, S.opened = some cs := by cases hq : S.opened with | none => exact absurd hq ho | some cs => exact ⟨cs, rfl⟩
    obtain ⟨cs, hs⟩ := hs
    obtain ⟨b0, hne, rfl, _⟩ := h.opened cs hs
    unfold cCall
    rw [if_pos ho]
    clear h ho hs
    go_enter Try.func37, Try.ntmps37
    go_wp2_with (first
      | (refine wpList_alloc_blk rfl 59 rfl zout.toArray zout_info ?_; intro W1 hx1 hb1 hs1; have hk4 := (hb1.cell hlt).trans hc4; have HX1 := hide hx1; have HB1 := hide hb1; have HS1 := hide hs1; clear hx1 hb1 hs1)
      | (refine wpList_build rfl 59 #[] rfl [] (by simp) zout.toArray zout_built ?_)
      | (refine wpList_store_blk rfl 59 (.tmp 6) _ rfl w.heap.size 59 zout.toArray zout.toArray rfl rfl HX1.out rfl zout_size zout_one ?_; intro W2 hx2 ht2 hs2; have HX2 := hide hx2; have HT2 := hide ht2; clear hx2 ht2 hs2))
    refine bodyPost_ret (results_row_tmp Try.results37 _ _ w.heap.size 59 _ (0, 0) _ _ rfl rfl HX2.out Try.underlying59 rfl zout_size) rfl ?_
    exact ask_end HC.out HB1.out HT2.out
end Go.Proofs.Ytpbgelhjbfckcaa
