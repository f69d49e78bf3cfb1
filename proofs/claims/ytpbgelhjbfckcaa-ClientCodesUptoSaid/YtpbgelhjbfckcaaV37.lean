/- The law's operations in memory; few. -/
import Derived.Test.YtpbgelhjbfckcaaV36
namespace Go.Proofs.Ytpbgelhjbfckcaa
set_option linter.unusedVariables false
set_option linter.unusedSimpArgs false
open Go.ChangeShapes Go.WideShapes Go.ChangeAt Go.RowKit
/-- An operation as it lies in memory. -/
structure OpV where
 kind : Int
 group : Int
 frm : Int
 body : ByteArray
 value : Int
 msg : MV
 fit : Bool
def OpV.cells (x : OpV) : List Value := .int .i64 x.kind :: .int .i64 x.group :: .int .i64 x.frm :: .string x.body :: .int .i64 x.value :: (x.msg.cells ++ [.bool x.fit])
structure OpV.Ok (x : OpV) : Prop where
 msg : x.msg.Ok
 body : x.body.size ≤ maxLen
 mbody : x.msg.body.size ≤ maxLen
 machines : ∃ A n c, x.msg.rest[26]? = some (.slice A n c) ∧ n ≤ maxLen
 entries : ∃ A n c, x.msg.rest[36]? = some (.slice A n c) ∧ n ≤ maxLen
 data : ∃ d : ByteArray, x.msg.rest[38]? = some (.string d) ∧ d.size ≤ maxLen
theorem OpV.Ok.size {x : OpV} (h : x.Ok) : x.cells.length = 53 := by simp [OpV.cells, h.msg.size]
theorem OpV.Ok.ones {x : OpV} (h : x.Ok) : x.cells.toArray.all (·.oneCell') = true := by
 have := h.msg.ones
 simp only [List.all_toArray, List.all_eq_true] at this ⊢
 intro v hv
 simp only [OpV.cells, List.mem_cons, List.mem_append, List.not_mem_nil, or_false] at hv
 rcases hv with rfl | rfl | rfl | rfl | rfl | hv | rfl
 ·rfl
 ·rfl
 ·rfl
 ·rfl
 ·rfl
 ·exact this v hv
 ·rfl
/-- The slice v holds the operations l. -/
def OpsIn (w : World) (v : Value) (l : List OpV) : Prop :=
 ∃ A c, v = .slice A l.length c ∧ l.length ≤ c ∧ c ≤ maxLen ∧ (∀ x ∈ l, x.Ok) ∧
  (0 < l.length → ∃ g o, A = some ⟨g, o, none⟩ ∧ g < w.heap.size ∧ ∀ i (h : i < l.length), w.rangeAt g (o + i * 53) l[i].cells)
theorem rangeAt_stepO {w w' : World} {g o : Nat} {cs : List Value} (h : w.rangeAt g o cs) (hg : g < w.heap.size) (k : Below w.heap.size w w') : w'.rangeAt g o cs := fun j v hv => (k.cell (p := ⟨g, o + j, none⟩) hg).trans (h j v hv)
theorem OpsIn.step {w w' : World} {v : Value} {l : List OpV} (h : OpsIn w v l) (k : Below w.heap.size w w') : OpsIn w' v l := by
 obtain ⟨A, c, e, h1, h2, h3, h4⟩ := h
 refine ⟨A, c, e, h1, h2, h3, fun h0 => ?_⟩
 obtain ⟨g, o, eA, hg, hc⟩ := h4 h0
 exact ⟨g, o, eA, Nat.lt_of_lt_of_le hg k.size, fun i hi => rangeAt_stepO (hc i hi) hg k⟩
theorem OpsIn.form {w : World} {v : Value} {l : List OpV} (h : OpsIn w v l) : ∃ A m c, v = .slice A m c ∧ Hid (m = l.length) ∧ m ≤ c ∧ c ≤ 9223372036854775807 := by
 obtain ⟨A, c, e, h1, h2, _⟩ := h; exact ⟨A, _, c, e, rfl, h1, by unfold maxLen at h2; omega⟩
theorem OpsIn.at_ {w : World} {A : Option Addr} {m c : Nat} {l : List OpV} (h : OpsIn w (.slice A m c) l) (i : Nat) (hi : i < l.length) :
 ∃ g o, A = some ⟨g, o, none⟩ ∧ g < w.heap.size ∧ (l[i]).Ok ∧ w.rangeAt g (o + i * 53) l[i].cells := by
 obtain ⟨A', c', e, h1, h2, h3, h4⟩ := h
 obtain ⟨rfl, rfl, rfl⟩ : A = A' ∧ m = l.length ∧ c = c' := by injection e with e1 e2 e3; exact ⟨e1, e2, e3⟩
 obtain ⟨g, o, rfl, hg, hc⟩ := h4 (by omega)
 exact ⟨g, o, rfl, hg, h3 _ (List.getElem_mem hi), hc i hi⟩
theorem zop_info : ∃ z : List Value, z.length = 53 ∧ (Try.prog.info? 43).map (fun i => (i.zero, i.size)) = some (some (.agg z.toArray), 53) :=
 ⟨[zi, zi, zi, zs, zi] ++ zmsg ++ [zb0], rfl, by kernel_rfl⟩
theorem size_op {cs : List Value} (h : cs.length = 53) : (Try.prog.info? 43).map (·.size) = some cs.toArray.size := by
 rw [List.size_toArray, h]; kernel_rfl
theorem OpV.Ok.cells_at {w : World} {g : Nat} {x : OpV} (h : x.Ok) (hb : Blk w g 43 x.cells.toArray) {A : Option Addr} {n c : Nat} {B : Option Addr} {m b : Nat} {d : ByteArray}
 (h1 : x.msg.rest[26]? = some (.slice A n c)) (h2 : x.msg.rest[36]? = some (.slice B m b)) (h3 : x.msg.rest[38]? = some (.string d)) :
 w.cell? ⟨g, 3, none⟩ = some (.string x.body) ∧ w.cell? ⟨g, 10, none⟩ = some (.string x.msg.body) ∧ w.cell? ⟨g, 38, none⟩ = some (.slice A n c) ∧ w.cell? ⟨g, 48, none⟩ = some (.slice B m b) ∧ w.cell? ⟨g, 50, none⟩ = some (.string d) := by
 have hl := h.msg.len
 refine ⟨hb.cell 3, hb.cell 10, ?_, ?_, ?_⟩
 ·rw [hb.cell 38]
  simp only [OpV.cells, MV.cells, List.getElem?_toArray, List.getElem?_cons_succ, List.cons_append]
  rw [List.getElem?_append_left (by omega)]; exact h1
 ·rw [hb.cell 48]
  simp only [OpV.cells, MV.cells, List.getElem?_toArray, List.getElem?_cons_succ, List.cons_append]
  rw [List.getElem?_append_left (by omega)]; exact h2
 ·rw [hb.cell 50]
  simp only [OpV.cells, MV.cells, List.getElem?_toArray, List.getElem?_cons_succ, List.cons_append]
  rw [List.getElem?_append_left (by omega)]; exact h3
/-- few's answer: true only if there are few. -/
def FewR (w : World) (l : List OpV) (most : Int) (e : Ending) (w' : World) : Prop := ∃ x : Bool, e = .returned (.bool x) ∧ (x = true → (l.length : Int) ≤ most) ∧ Below w.heap.size w w'
set_option maxRecDepth 100000 in
set_option maxHeartbeats 8000000 in
theorem few_c (v : Value) (l : List OpV) (most : Int) (w : World) (h : OpsIn w v l) :
 Calls Try.prog 11 #[v, .int .i64 most] w (FewR w l most) := by
 obtain ⟨A, n, c, rfl, hn, hnc, hcm⟩ := h.form
 obtain ⟨zo, hzl, hzi⟩ := zop_info
 have HZI : Hid ((Try.prog.info? 43).map (·.zero) = some (some (.agg zo.toArray))) := hide (by
  have h := congrArg (Option.map Prod.fst) hzi
  rw [Option.map_map] at h
  exact h)
 have H := hide h;clear h hzi
 go_enter Try.func11, Try.ntmps11
 go_wp2_with fail
 go_loopw [9] (fun v9 wr => (∃ k : Nat, v9 = .int .i64 k ∧ k ≤ n) ∧ Below w.heap.size w wr) (fun v9 _ => n - (intOf v9).toNat)
 case atStart => exact ⟨⟨0, rfl, Nat.zero_le _⟩, Below.refl _ _⟩
 case round =>
  obtain ⟨⟨k, rfl, hk⟩, hb⟩ := hrel
  have HB := hide hb
  by_cases hlt : k < n
  ·have hkl : k < l.length := by rw [← hn.out]; exact hlt
   obtain ⟨g, o, rfl, hg, hok, hc⟩ := H.out.at_ k hkl
   have HRA := hide (rangeAt_stepO hc hg hb)
   have HOK := hide hok
   have hki : (k : Int) < (n : Int) := by omega
   have HLT := hide hlt
   obtain ⟨xa, n1, c1, m1, hn1⟩ := hok.machines
   obtain ⟨ya, n2, c2, m2, hn2⟩ := hok.entries
   obtain ⟨dt, m3, hn3⟩ := hok.data
   have HCA := hide (fun (X : World) (q : Nat) (hX : Blk X q 43 l[k].cells.toArray) => hok.cells_at hX m1 m2 m3)
   have hs1 := hok.body;have hs2 := hok.mbody
   unfold maxLen at hs1 hs2 hn1 hn2 hn3
   generalize l[k] = x at *
   have HSI : Hid ((Try.prog.info? 43).map (·.size) = some x.cells.length) := hide (by rw [HOK.out.size]; kernel_rfl)
   have HSJ : Hid ((Try.prog.info? 43).map (·.size) = some x.cells.toArray.size) := hide (size_op HOK.out.size)
   have HSK : Hid (x.cells.toArray.size = zo.toArray.size) := hide (by rw [List.size_toArray, List.size_toArray, HOK.out.size, hzl])
   have HSO := hide HOK.out.ones;clear hc hok hb hlt hkl hg m1 m2 m3
   have hcase : (decide (5000 < (x.body.size : Int)) = true) ∨ (decide (5000 < (x.body.size : Int)) = false ∧ decide (5000 < (x.msg.body.size : Int)) = true) ∨ (decide (5000 < (x.body.size : Int)) = false ∧ decide (5000 < (x.msg.body.size : Int)) = false ∧ decide (20 < (n1 : Int)) = true) ∨ (decide (5000 < (x.body.size : Int)) = false ∧ decide (5000 < (x.msg.body.size : Int)) = false ∧ decide (20 < (n1 : Int)) = false ∧ decide (5 < (n2 : Int)) = true) ∨ (decide (5000 < (x.body.size : Int)) = false ∧ decide (5000 < (x.msg.body.size : Int)) = false ∧ decide (20 < (n1 : Int)) = false ∧ decide (5 < (n2 : Int)) = false ∧ decide (1000 < (dt.size : Int)) = true) ∨ (decide (5000 < (x.body.size : Int)) = false ∧ decide (5000 < (x.msg.body.size : Int)) = false ∧ decide (20 < (n1 : Int)) = false ∧ decide (5 < (n2 : Int)) = false ∧ decide (1000 < (dt.size : Int)) = false) := by
    cases decide (5000 < (x.body.size : Int)) <;> cases decide (5000 < (x.msg.body.size : Int)) <;> cases decide (20 < (n1 : Int)) <;> cases decide (5 < (n2 : Int)) <;> cases decide (1000 < (dt.size : Int)) <;> simp
   rcases hcase with q1 | ⟨q1, q2⟩ | ⟨q1, q2, q3⟩ | ⟨q1, q2, q3, q4⟩ | ⟨q1, q2, q3, q4, q5⟩ | ⟨q1, q2, q3, q4, q5⟩
   ·go_wp2_with (first
     | (refine wpList_load_mid rfl 43 (.tmp 11) rfl g (o + k * 53) rfl x.cells _ HRA.out Try.underlying43 rfl HSI.out ?_)
     | (refine wpList_alloc_blk rfl 43 rfl zo.toArray HZI.out ?_; intro W1 hx1 hb1 hs1; have HX1 := hide hx1; have HB1 := hide hb1; clear hx1 hb1 hs1)
     | (refine wpList_store_blk rfl 43 (.tmp 6) _ rfl wr.heap.size 43 zo.toArray x.cells.toArray rfl rfl HX1.out HSK.out HSJ.out HSO.out ?_; intro W2 hx2 ht2 hs2; have HB2 := hide (HB.out.trans ((Below.touch HB1.out ht2 (by simp) HB1.out.size).mono HB.out.size)); obtain ⟨z1, z2, z3, z4, z5⟩ := HCA.out _ _ hx2; clear hx2 ht2 hs2; refine Hid.out ?_))
    refine hide ?_
    clear HX1 HB1 HCA
    go_wp2_with fail
    go_ret
    exact ⟨false, rfl, (fun h => by cases h), HB2.out⟩
   ·go_wp2_with (first
     | (refine wpList_load_mid rfl 43 (.tmp 11) rfl g (o + k * 53) rfl x.cells _ HRA.out Try.underlying43 rfl HSI.out ?_)
     | (refine wpList_alloc_blk rfl 43 rfl zo.toArray HZI.out ?_; intro W1 hx1 hb1 hs1; have HX1 := hide hx1; have HB1 := hide hb1; clear hx1 hb1 hs1)
     | (refine wpList_store_blk rfl 43 (.tmp 6) _ rfl wr.heap.size 43 zo.toArray x.cells.toArray rfl rfl HX1.out HSK.out HSJ.out HSO.out ?_; intro W2 hx2 ht2 hs2; have HB2 := hide (HB.out.trans ((Below.touch HB1.out ht2 (by simp) HB1.out.size).mono HB.out.size)); obtain ⟨z1, z2, z3, z4, z5⟩ := HCA.out _ _ hx2; clear hx2 ht2 hs2; refine Hid.out ?_))
    refine hide ?_
    clear HX1 HB1 HCA
    go_wp2_with fail
    go_ret
    exact ⟨false, rfl, (fun h => by cases h), HB2.out⟩
   ·go_wp2_with (first
     | (refine wpList_load_mid rfl 43 (.tmp 11) rfl g (o + k * 53) rfl x.cells _ HRA.out Try.underlying43 rfl HSI.out ?_)
     | (refine wpList_alloc_blk rfl 43 rfl zo.toArray HZI.out ?_; intro W1 hx1 hb1 hs1; have HX1 := hide hx1; have HB1 := hide hb1; clear hx1 hb1 hs1)
     | (refine wpList_store_blk rfl 43 (.tmp 6) _ rfl wr.heap.size 43 zo.toArray x.cells.toArray rfl rfl HX1.out HSK.out HSJ.out HSO.out ?_; intro W2 hx2 ht2 hs2; have HB2 := hide (HB.out.trans ((Below.touch HB1.out ht2 (by simp) HB1.out.size).mono HB.out.size)); obtain ⟨z1, z2, z3, z4, z5⟩ := HCA.out _ _ hx2; clear hx2 ht2 hs2; refine Hid.out ?_))
    refine hide ?_
    clear HX1 HB1 HCA
    go_wp2_with fail
    go_ret
    exact ⟨false, rfl, (fun h => by cases h), HB2.out⟩
   ·go_wp2_with (first
     | (refine wpList_load_mid rfl 43 (.tmp 11) rfl g (o + k * 53) rfl x.cells _ HRA.out Try.underlying43 rfl HSI.out ?_)
     | (refine wpList_alloc_blk rfl 43 rfl zo.toArray HZI.out ?_; intro W1 hx1 hb1 hs1; have HX1 := hide hx1; have HB1 := hide hb1; clear hx1 hb1 hs1)
     | (refine wpList_store_blk rfl 43 (.tmp 6) _ rfl wr.heap.size 43 zo.toArray x.cells.toArray rfl rfl HX1.out HSK.out HSJ.out HSO.out ?_; intro W2 hx2 ht2 hs2; have HB2 := hide (HB.out.trans ((Below.touch HB1.out ht2 (by simp) HB1.out.size).mono HB.out.size)); obtain ⟨z1, z2, z3, z4, z5⟩ := HCA.out _ _ hx2; clear hx2 ht2 hs2; refine Hid.out ?_))
    refine hide ?_
    clear HX1 HB1 HCA
    go_wp2_with fail
    go_ret
    exact ⟨false, rfl, (fun h => by cases h), HB2.out⟩
   ·go_wp2_with (first
     | (refine wpList_load_mid rfl 43 (.tmp 11) rfl g (o + k * 53) rfl x.cells _ HRA.out Try.underlying43 rfl HSI.out ?_)
     | (refine wpList_alloc_blk rfl 43 rfl zo.toArray HZI.out ?_; intro W1 hx1 hb1 hs1; have HX1 := hide hx1; have HB1 := hide hb1; clear hx1 hb1 hs1)
     | (refine wpList_store_blk rfl 43 (.tmp 6) _ rfl wr.heap.size 43 zo.toArray x.cells.toArray rfl rfl HX1.out HSK.out HSJ.out HSO.out ?_; intro W2 hx2 ht2 hs2; have HB2 := hide (HB.out.trans ((Below.touch HB1.out ht2 (by simp) HB1.out.size).mono HB.out.size)); obtain ⟨z1, z2, z3, z4, z5⟩ := HCA.out _ _ hx2; clear hx2 ht2 hs2; refine Hid.out ?_))
    refine hide ?_
    clear HX1 HB1 HCA
    go_wp2_with fail
    go_ret
    exact ⟨false, rfl, (fun h => by cases h), HB2.out⟩
   ·go_wp2_with (first
     | (refine wpList_load_mid rfl 43 (.tmp 11) rfl g (o + k * 53) rfl x.cells _ HRA.out Try.underlying43 rfl HSI.out ?_)
     | (refine wpList_alloc_blk rfl 43 rfl zo.toArray HZI.out ?_; intro W1 hx1 hb1 hs1; have HX1 := hide hx1; have HB1 := hide hb1; clear hx1 hb1 hs1)
     | (refine wpList_store_blk rfl 43 (.tmp 6) _ rfl wr.heap.size 43 zo.toArray x.cells.toArray rfl rfl HX1.out HSK.out HSJ.out HSO.out ?_; intro W2 hx2 ht2 hs2; have HB2 := hide (HB.out.trans ((Below.touch HB1.out ht2 (by simp) HB1.out.size).mono HB.out.size)); obtain ⟨z1, z2, z3, z4, z5⟩ := HCA.out _ _ hx2; clear hx2 ht2 hs2; refine Hid.out ?_))
    refine hide ?_
    clear HX1 HB1 HCA
    go_wp2_with fail
    go_roundw
    case rel => exact ⟨⟨k + 1, by go_num, HLT.out⟩, HB2.out⟩
    case measure => have := HLT.out; simp [intOf]; omega
  ·obtain rfl : k = n := by omega
   have HB := hide hb;clear hlt hb
   go_wp2_with fail
   go_ret
   exact ⟨_, rfl, fun h => by rw [← hn.out]; simpa using h, HB.out⟩
end Go.Proofs.Ytpbgelhjbfckcaa
