/- The fields of a message: what Valid calls, continued. -/
import Derived.Test.YtpbgelhjbfckcaaT02
import Derived.Test.YtpbgelhjbfckcaaT01
import Derived.Maps.OwnSet
import Derived.Maps.RangeWalk
namespace Go.Proofs.Ytpbgelhjbfckcaa
open Go.ChangeShapes Go.WideShapes Go.ChangeAt Go.RowKit
set_option linter.unusedVariables false
set_option linter.unusedSimpArgs false

/-- A list of numbers in memory. -/
def Li (w : World) (v : Value) (l : List Int) : Prop :=
  ∃ A c, v = .slice A l.length c ∧ l.length ≤ c ∧ c ≤ maxLen ∧ (∀ x ∈ l, -9223372036854775808 ≤ x ∧ x ≤ 9223372036854775807) ∧ (0 < l.length → ∃ g o, A = some ⟨g, o, none⟩ ∧ g < w.heap.size ∧ ∀ i (h : i < l.length), w.cell? ⟨g, o + i, none⟩ = some (.int .i64 l[i]))
theorem Li.nil (w : World) : Li w (.slice none 0 0) [] := ⟨none, 0, rfl, Nat.le_refl _, by unfold maxLen; omega, (fun x hx => by cases hx), fun h => by simp at h⟩
theorem Li.form {w : World} {v : Value} {l : List Int} (h : Li w v l) : ∃ A n c, v = .slice A n c ∧ Hid (n = l.length) ∧ n ≤ c ∧ c ≤ 9223372036854775807 := by
  obtain ⟨A, c, e, h1, h2, _⟩ := h; exact ⟨A, _, c, e, rfl, h1, by unfold maxLen at h2; omega⟩
theorem Li.at_ {w : World} {A : Option Addr} {n c : Nat} {l : List Int} (h : Li w (.slice A n c) l) (i : Nat) (hi : i < l.length) : ∃ g o, A = some ⟨g, o, none⟩ ∧ ∀ j (hj : j < l.length), w.cell? ⟨g, o + j, none⟩ = some (.int .i64 l[j]) := by
  obtain ⟨A', c', e, h1, h2, _, h3⟩ := h
  obtain ⟨rfl, rfl, rfl⟩ : A = A' ∧ n = l.length ∧ c = c' := by injection e with e1 e2 e3; exact ⟨e1, e2, e3⟩
  obtain ⟨g, o, rfl, _, hc⟩ := h3 (by omega)
  exact ⟨g, o, rfl, hc⟩
theorem Li.touch {S : List Nat} {w w' : World} {v : Value} {l : List Int} (h : Li w v l) (k : Touch S w w') (hv : l ≠ [] → ∀ j, v.ownBlock = some j → j ∉ S) : Li w' v l := by
  obtain ⟨A, c, rfl, h1, h2, h3, h4⟩ := h
  refine ⟨A, c, rfl, h1, h2, h3, fun hl => ?_⟩
  obtain ⟨g, o, rfl, hg, hr⟩ := h4 hl
  exact ⟨g, o, rfl, Nat.lt_of_lt_of_le hg k.size, fun i hi => by rw [World.cell?_of_block (k.block g hg (hv (List.length_pos_iff.1 hl) g rfl))]; exact hr i hi⟩
theorem Li.step {w w' : World} {v : Value} {l : List Int} (h : Li w v l) (k : Below w.heap.size w w') : Li w' v l := h.touch (Touch.below k []) (by simp)
def incAt (l : List Int) (i : Nat) : Bool := !(decide (l.getD i 0 < 1) || decide (16 < l.getD i 0) || decide (0 < i) && decide (l.getD i 0 ≤ l.getD (i - 1) 0))
def incr (l : List Int) : Bool := (List.range l.length).all (incAt l)
theorem incr_false {l : List Int} {k : Nat} (hk : k < l.length) (h : incAt l k = false) : incr l = false := by
  unfold incr
  rw [List.all_eq_false]
  exact ⟨k, List.mem_range.2 hk, by simp [h]⟩
set_option maxHeartbeats 2000000 in
theorem increasing_c (v : Value) (l : List Int) (w : World) (h : Li w v l) : Calls Try.prog 59 #[v] w fun e w' => e = .returned (.bool (incr l)) ∧ w = w' := by
  obtain ⟨A, n, c, rfl, hn, hnc, hcm⟩ := h.form
  have H := hide h
  clear h
  go_enter Try.func59, Try.ntmps59
  go_wp2_with fail
  go_loopw [7] (fun v9 wr => w = wr ∧ ∃ k : Nat, v9 = .int .i64 k ∧ k ≤ n ∧ ∀ i, i < k → incAt l i = true) (fun v9 _ => n - (intOf v9).toNat)
  case atStart => exact ⟨rfl, 0, rfl, Nat.zero_le _, fun i hi => by omega⟩
  case round =>
    obtain ⟨rfl, k, rfl, hk, hz⟩ := hrel
    by_cases hlt : k < n
    · have hkl : k < l.length := by rw [← hn.out]; exact hlt
      obtain ⟨g, o, rfl, hc⟩ := H.out.at_ k hkl
      have hcp := hc k hkl
      have hcq : 0 < k → w.cell? ⟨g, o + (k - 1), none⟩ = some (.int .i64 (l.getD (k - 1) 0)) := fun h0 => by
        rw [hc (k - 1) (by omega)]; simp [show k - 1 < l.length by omega]
      have hki : (k : Int) < (n : Int) := by omega
      have HLT := hide hlt
      have hg : l[k] = l.getD k 0 := by simp [hkl]
      rw [hg] at hcp
      have HI : Hid (incAt l k = !(decide (l.getD k 0 < 1) || decide (16 < l.getD k 0) || decide (0 < k) && decide (l.getD k 0 ≤ l.getD (k - 1) 0))) := hide rfl
      have HF : Hid (incAt l k = false → incr l = false) := hide (incr_false hkl)
      have HZ : Hid (incAt l k = true → ∀ i, i < k + 1 → incAt l i = true) := hide (fun h i hi => by
        rcases Nat.lt_or_ge i k with h1 | h1
        · exact hz i h1
        · obtain rfl : i = k := by omega
          exact h)
      clear hc hg hz hkl hlt
      generalize l.getD k 0 = x at *
      generalize l.getD (k - 1) 0 = y at *
      cases q1 : decide (x < 1) with
      | true =>
        have HR : Hid (incr l = false) := hide (HF.out (by rw [HI.out, q1]; rfl))
        clear HI HF HZ hcq
        go_wp2_with fail
        go_ret
        exact ⟨by rw [HR.out]; rfl, rfl⟩
      | false =>
        cases q2 : decide (16 < x) with
        | true =>
          have HR : Hid (incr l = false) := hide (HF.out (by rw [HI.out, q1, q2]; rfl))
          clear HI HF HZ hcq
          go_wp2_with fail
          go_ret
          exact ⟨by rw [HR.out]; rfl, rfl⟩
        | false =>
          by_cases h0 : 0 < k
          · have hcr := hcq h0
            obtain ⟨j, rfl⟩ : ∃ j, k = j + 1 := ⟨k - 1, by omega⟩
            rw [show j + 1 - 1 = j by omega] at hcr
            have hj1 : ((j + 1 : Nat) : Int) - 1 = (j : Int) := by omega
            have q0 : decide ((0 : Int) < ((j + 1 : Nat) : Int)) = true := by simp <;> omega
            cases q3 : decide (x ≤ y) with
            | true =>
              have HR : Hid (incr l = false) := hide (HF.out (by rw [HI.out, q1, q2, q3]; simp))
              clear HI HF HZ hcq
              go_wp2_with fail
              go_ret
              exact ⟨by rw [HR.out]; rfl, rfl⟩
            | false =>
              have HR := hide (HZ.out (by rw [HI.out, q1, q2, q3]; simp))
              clear HI HF HZ hcq
              go_wp2_with fail
              go_roundw
              case rel => exact ⟨trivial, j + 1 + 1, by go_num, HLT.out, HR.out⟩
              case measure => have := HLT.out; simp [intOf]; omega
          · obtain rfl : k = 0 := by omega
            have HR := hide (HZ.out (by rw [HI.out, q1, q2]; rfl))
            clear HI HF HZ hcq
            rw [Nat.add_zero] at hcp
            go_wp2_with fail
            go_roundw
            case rel => exact ⟨trivial, 1, by go_num, HLT.out, HR.out⟩
            case measure => have := HLT.out; simp [intOf]; omega
    · obtain rfl : k = n := by omega
      have HZ : Hid (incr l = true) := hide (by unfold incr; rw [List.all_eq_true]; exact fun i hi => hz i (by rw [hn.out]; exact List.mem_range.1 hi))
      clear hz hk hlt
      go_wp2_with fail
      go_ret
      exact ⟨by rw [HZ.out]; rfl, rfl⟩
theorem mvalid_c (bm b : Nat) (v : Value) (l : List Int) (w : World) (h1 : w.cell? ⟨bm, 0, none⟩ = some (at0 b)) (h2 : w.cell? ⟨b, 33, none⟩ = some v) (h3 : Li w v l) :
    Calls Try.prog 58 #[at0 bm] w fun e w' => e = .returned (.bool (incr l)) ∧ w = w' := by
  obtain ⟨A, n, c, rfl, hn, hnc, hcm⟩ := h3.form
  go_enter Try.func58, Try.ntmps58
  go_wp2_with fail
  refine (increasing_c _ l w h3).mono ?_
  rintro e w1 ⟨rfl, rfl⟩
  go_wp2_with fail
  go_ret
  exact ⟨rfl, rfl⟩
theorem uzero_c (bz bn bl bm b : Nat) (vn vl : Value) (ns ls : List Nat) (cs : List Value) (x : Int) (w : World) (h0 : w.cell? ⟨bz, 0, none⟩ = some (.func (.func 86) #[] #[at0 bn, at0 bl])) (h1 : w.cell? ⟨bn, 0, none⟩ = some vn) (h2 : w.cell? ⟨bl, 0, none⟩ = some vl) (hn : Ptrs w vn b ns) (hl : Ptrs w vl b ls)
    (hc : ∀ o, w.cell? ⟨b, o, none⟩ = cs[o]?) (hns : ∀ o ∈ ns, ∃ x, cs[o]? = some (.int .i64 x)) (hls : ∀ o ∈ ls, ∃ A n c, cs[o]? = some (.slice A n c)) (hm : w.cell? ⟨bm, 0, none⟩ = some (at0 b)) (hx : w.cell? ⟨b, 16, none⟩ = some (.int .i64 x)) :
    Calls Try.prog 56 #[at0 bz, at0 bm] w fun e w' => e = .returned (.bool (zeroP cs ns ls && decide (x = 0))) ∧ w = w' := by
  have HP := hide (pzero_c bn bl b vn vl ns ls cs w h1 h2 hn hl hc hns hls)
  clear h1 h2 hn hl hc hns hls
  generalize hz : zeroP cs ns ls = zz at *
  clear hz
  go_enter Try.func56, Try.ntmps56
  go_wp2_with fail
  refine HP.out.mono ?_
  rintro e w1 ⟨rfl, rfl⟩
  cases zz with
  | true =>
    go_wp2_with fail
    go_ret
    exact ⟨by simp [BEq.beq], rfl⟩
  | false =>
    go_wp2_with fail
    go_ret
    exact ⟨by simp, rfl⟩
theorem info_unit : (Try.prog.info? 32).map (·.zero) = some (some (.agg ([.int .i64 0, .int .i64 0, .int .i64 0, .int .i64 0] : List Value).toArray)) := by kernel_rfl
theorem size_unit : (Try.prog.info? 32).map (·.size) = some 4 := by kernel_rfl
def uOk (uk ui ur : Int) : Bool := decide (0 ≤ uk) && decide (uk ≤ 5) && decide (1 ≤ ui) && decide (ui ≤ 8) && decide (0 ≤ ur)
set_option maxHeartbeats 2000000 in
theorem uvalid_c (bm b : Nat) (uk ui ur uv : Int) (w : World) (hm : w.cell? ⟨bm, 0, none⟩ = some (at0 b)) (c0 : w.cell? ⟨b, 13, none⟩ = some (.int .i64 uk)) (c1 : w.cell? ⟨b, 14, none⟩ = some (.int .i64 ui)) (c2 : w.cell? ⟨b, 15, none⟩ = some (.int .i64 ur)) (c3 : w.cell? ⟨b, 16, none⟩ = some (.int .i64 uv)) :
    Calls Try.prog 57 #[at0 bm] w fun e w' => e = .returned (.bool (uOk uk ui ur)) ∧ Below w.heap.size w w' := by
  have HO := hide (Own.nil w [] (by simp))
  unfold uOk
  cases q0 : decide (0 ≤ uk) with
  | true =>
    cases q1 : decide (uk ≤ 5) with
    | true =>
      cases q2 : decide (1 ≤ ui) with
      | true =>
        cases q3 : decide (ui ≤ 8) with
        | true =>
          cases q4 : decide (0 ≤ ur) with
          | true =>
            go_enter Try.func57, Try.ntmps57
            go_wp2_with (first
              | ((with_reducible refine at_alloc 32 ?_); refine wpList_alloc_own HO.out rfl 32 rfl [.int .i64 0, .int .i64 0, .int .i64 0, .int .i64 0] info_unit ?_; intro WA b2 hO; replace HO := hide hO; clear hO)
              | ((with_reducible refine at_store 32 (.tmp 2) ?_); refine wpList_store_own HO.out rfl 32 (.tmp 2) (.tmp 6) rfl 0 _ 0 _ _ ([.int .i64 uk, .int .i64 ui, .int .i64 ur, .int .i64 uv]) ([.int .i64 uk, .int .i64 ui, .int .i64 ur, .int .i64 uv]) rfl _ rfl rfl (fits_agg _) (by simp) rfl size_unit rfl ?_; intro WA hO; replace HO := hide hO; clear hO; have k0 := HO.out.cells 0 rfl))
            go_ret
            exact ⟨by simp, HO.out.below⟩
          | false =>
            go_enter Try.func57, Try.ntmps57
            go_wp2_with (first
              | ((with_reducible refine at_alloc 32 ?_); refine wpList_alloc_own HO.out rfl 32 rfl [.int .i64 0, .int .i64 0, .int .i64 0, .int .i64 0] info_unit ?_; intro WA b2 hO; replace HO := hide hO; clear hO)
              | ((with_reducible refine at_store 32 (.tmp 2) ?_); refine wpList_store_own HO.out rfl 32 (.tmp 2) (.tmp 6) rfl 0 _ 0 _ _ ([.int .i64 uk, .int .i64 ui, .int .i64 ur, .int .i64 uv]) ([.int .i64 uk, .int .i64 ui, .int .i64 ur, .int .i64 uv]) rfl _ rfl rfl (fits_agg _) (by simp) rfl size_unit rfl ?_; intro WA hO; replace HO := hide hO; clear hO; have k0 := HO.out.cells 0 rfl))
            go_ret
            exact ⟨by simp, HO.out.below⟩
        | false =>
          go_enter Try.func57, Try.ntmps57
          go_wp2_with (first
            | ((with_reducible refine at_alloc 32 ?_); refine wpList_alloc_own HO.out rfl 32 rfl [.int .i64 0, .int .i64 0, .int .i64 0, .int .i64 0] info_unit ?_; intro WA b2 hO; replace HO := hide hO; clear hO)
            | ((with_reducible refine at_store 32 (.tmp 2) ?_); refine wpList_store_own HO.out rfl 32 (.tmp 2) (.tmp 6) rfl 0 _ 0 _ _ ([.int .i64 uk, .int .i64 ui, .int .i64 ur, .int .i64 uv]) ([.int .i64 uk, .int .i64 ui, .int .i64 ur, .int .i64 uv]) rfl _ rfl rfl (fits_agg _) (by simp) rfl size_unit rfl ?_; intro WA hO; replace HO := hide hO; clear hO; have k0 := HO.out.cells 0 rfl))
          go_ret
          exact ⟨by simp, HO.out.below⟩
      | false =>
        go_enter Try.func57, Try.ntmps57
        go_wp2_with (first
          | ((with_reducible refine at_alloc 32 ?_); refine wpList_alloc_own HO.out rfl 32 rfl [.int .i64 0, .int .i64 0, .int .i64 0, .int .i64 0] info_unit ?_; intro WA b2 hO; replace HO := hide hO; clear hO)
          | ((with_reducible refine at_store 32 (.tmp 2) ?_); refine wpList_store_own HO.out rfl 32 (.tmp 2) (.tmp 6) rfl 0 _ 0 _ _ ([.int .i64 uk, .int .i64 ui, .int .i64 ur, .int .i64 uv]) ([.int .i64 uk, .int .i64 ui, .int .i64 ur, .int .i64 uv]) rfl _ rfl rfl (fits_agg _) (by simp) rfl size_unit rfl ?_; intro WA hO; replace HO := hide hO; clear hO; have k0 := HO.out.cells 0 rfl))
        go_ret
        exact ⟨by simp, HO.out.below⟩
    | false =>
      go_enter Try.func57, Try.ntmps57
      go_wp2_with (first
        | ((with_reducible refine at_alloc 32 ?_); refine wpList_alloc_own HO.out rfl 32 rfl [.int .i64 0, .int .i64 0, .int .i64 0, .int .i64 0] info_unit ?_; intro WA b2 hO; replace HO := hide hO; clear hO)
        | ((with_reducible refine at_store 32 (.tmp 2) ?_); refine wpList_store_own HO.out rfl 32 (.tmp 2) (.tmp 6) rfl 0 _ 0 _ _ ([.int .i64 uk, .int .i64 ui, .int .i64 ur, .int .i64 uv]) ([.int .i64 uk, .int .i64 ui, .int .i64 ur, .int .i64 uv]) rfl _ rfl rfl (fits_agg _) (by simp) rfl size_unit rfl ?_; intro WA hO; replace HO := hide hO; clear hO; have k0 := HO.out.cells 0 rfl))
      go_ret
      exact ⟨by simp, HO.out.below⟩
  | false =>
    go_enter Try.func57, Try.ntmps57
    go_wp2_with (first
      | ((with_reducible refine at_alloc 32 ?_); refine wpList_alloc_own HO.out rfl 32 rfl [.int .i64 0, .int .i64 0, .int .i64 0, .int .i64 0] info_unit ?_; intro WA b2 hO; replace HO := hide hO; clear hO)
      | ((with_reducible refine at_store 32 (.tmp 2) ?_); refine wpList_store_own HO.out rfl 32 (.tmp 2) (.tmp 6) rfl 0 _ 0 _ _ ([.int .i64 uk, .int .i64 ui, .int .i64 ur, .int .i64 uv]) ([.int .i64 uk, .int .i64 ui, .int .i64 ur, .int .i64 uv]) rfl _ rfl rfl (fits_agg _) (by simp) rfl size_unit rfl ?_; intro WA hO; replace HO := hide hO; clear hO; have k0 := HO.out.cells 0 rfl))
    go_ret
    exact ⟨by simp, HO.out.below⟩
set_option maxRecDepth 100000 in
set_option maxHeartbeats 2000000 in
theorem mzero_c (bm b : Nat) (i0 i1 i2 i3 i4 i5 i6 i7 i8 : Int) (gr dn : Bool) (A : Option Addr) (n c : Nat) (d : ByteArray) (w : World) (hm : w.cell? ⟨bm, 0, none⟩ = some (at0 b)) (hg : w.rangeAt b 34 ([.int .i64 i0, .int .i64 i1, .int .i64 i2, .int .i64 i3, .int .i64 i4, .int .i64 i5, .int .i64 i6, .int .i64 i7, .bool gr, .slice A n c, .int .i64 i8, .string d, .bool dn] : List Value)) :
    Calls Try.prog 75 #[at0 bm] w fun e w' => e = .returned (.bool (gmZ [i0, i1, i2, i3, i4, i5, i6, i7, i8, (n : Int), (d.size : Int)] gr dn)) ∧ Below w.heap.size w w' := by
  have HG := hide hg
  clear hg
  go_enter Try.func75, Try.ntmps75
  go_wp2_with (refine wpList_load_mid rfl 39 (.tmp 4) rfl b 34 rfl ([.int .i64 i0, .int .i64 i1, .int .i64 i2, .int .i64 i3, .int .i64 i4, .int .i64 i5, .int .i64 i6, .int .i64 i7, .bool gr, .slice A n c, .int .i64 i8, .string d, .bool dn]) _ HG.out Try.underlying39 rfl size_gm ?_)
  refine (isZero_c i0 i1 i2 i3 i4 i5 i6 i7 i8 gr dn A n c d w).mono ?_
  rintro e w1 ⟨rfl, hb⟩
  have HB := hide hb
  clear hb
  go_wp2_with fail
  go_ret
  exact ⟨rfl, HB.out⟩
end Go.Proofs.Ytpbgelhjbfckcaa
/- Maps that a function makes: their steps in a region. -/
namespace Go.Proofs.Ytpbgelhjbfckcaa
open Go.ChangeMaps Go.ChangeShapes Go.WideShapes Go.ChangeAt Go.RowKit
open Go.Maps (Keyed)
set_option linter.unusedVariables false

theorem Touch.map {w w' : World} {b : Nat} (h : w.mapTurned w' b) : Touch [b] w w' := by
  obtain ⟨es, clock, es', clock', hb, rfl⟩ := h
  refine ⟨rfl, rfl, rfl, by simp [setBlock], fun k hk hne => ?_⟩
  exact heap_setBlock_other hb _ (by simpa using hne)
theorem step_makeMap {P : Program} {w : World} {ops : Array Oper} {o : Oper} {a : Act} {K : Act → World → Prop} {Q : Exit → Act → World → Prop} {E : Prop} (hgd : o.guard = none) (t : TypeId) (ho : o.op = .makeMap t none)
    (h : ∀ w' mb, mb = w.heap.size → w' = w.alloc (.map #[] 0) → K (a.put o.dst (.map (some mb))) w') : if Region.wanted o (yielded ops a.tmps) = true then Oper.wp P o a w K Q else E := by
  have hw : Region.wanted o (yielded ops a.tmps) = true := by simp [Region.wanted, hgd]
  rw [if_pos hw]
  unfold Oper.wp execOp
  simp only [ho, Option.map_none, Sem.run_bind, run_makeMap, Result.andThen_ok]
  exact h _ _ rfl rfl
theorem step_insert {H : Type} {P : Program} {w : World} {ops : Array Oper} {o : Oper} {a : Act} {K : Act → World → Prop} {Q : Exit → Act → World → Prop} {E : Prop} (hgd : o.guard = none) (m x v : Operand) (t : TypeId) (hop : o.op = .insert t m x v)
    (k e : TypeId) (KK : Keyed P k) (ht : P.underlying t = some (.map k e)) (R : Value → Option (DataW H × List MemPlace)) (b n : Nat) (D : DataW H)
    (hm : a.eval m = .map (some b)) (hown : w.ownsMap P k R b n D) (hn : n < maxLen) (key val : Value) (kl : Lit) (hx : a.eval x = key) (hv : a.eval v = val) (hkey : keyOf P k key = some kl)
    (d : DataW H) (ps : List MemPlace) (hval : R val = some (d, ps))
    (hK : ∀ w', w'.ownsMap P k R b (n + 1) (D.put kl d) → Touch [b] w w' → K (a.put o.dst undef) w') : if Region.wanted o (yielded ops a.tmps) = true then Oper.wp P o a w K Q else E := by
  have hw : Region.wanted o (yielded ops a.tmps) = true := by simp [Region.wanted, hgd]
  rw [if_pos hw]
  obtain ⟨w', hrun, r1, r2⟩ := hown.store KK ht hn hkey hval
  unfold Oper.wp
  simp [execOp, hop, hm, hx, hv, hrun, Result.andThen]
  exact hK w' r1 (Touch.map r2)
end Go.Proofs.Ytpbgelhjbfckcaa
/- The names of the fields that a kind of messages uses. -/
namespace Go.Proofs.Ytpbgelhjbfckcaa
open Go.ChangeMaps Go.ChangeShapes Go.WideShapes Go.ChangeAt Go.RowKit
open Go.Maps (Keyed IsMap)
set_option linter.unusedVariables false
set_option linter.unusedSimpArgs false

abbrev nGroup : ByteArray := ⟨#[71, 114, 111, 117, 112]⟩
abbrev nClient : ByteArray := ⟨#[67, 108, 105, 101, 110, 116]⟩
abbrev nNumber : ByteArray := ⟨#[78, 117, 109, 98, 101, 114]⟩
abbrev nCode : ByteArray := ⟨#[67, 111, 100, 101]⟩
abbrev nLeader : ByteArray := ⟨#[76, 101, 97, 100, 101, 114]⟩
abbrev nGeneration : ByteArray := ⟨#[71, 101, 110, 101, 114, 97, 116, 105, 111, 110]⟩
abbrev nStep : ByteArray := ⟨#[83, 116, 101, 112]⟩
abbrev nBody : ByteArray := ⟨#[66, 111, 100, 121]⟩
abbrev nValue : ByteArray := ⟨#[86, 97, 108, 117, 101]⟩
abbrev nChange : ByteArray := ⟨#[67, 104, 97, 110, 103, 101]⟩
abbrev nUnit : ByteArray := ⟨#[85, 110, 105, 116]⟩
abbrev nMachines : ByteArray := ⟨#[77, 97, 99, 104, 105, 110, 101, 115]⟩
abbrev nStatus : ByteArray := ⟨#[83, 116, 97, 116, 117, 115]⟩
abbrev nMessage : ByteArray := ⟨#[77, 101, 115, 115, 97, 103, 101]⟩
/-- The names that the kinds use, in order of the kinds. -/
def useList : List (List ByteArray) := [[nMessage], [nGroup, nClient, nNumber, nBody], [nGroup, nClient, nNumber, nCode, nBody, nLeader], [nGroup, nGeneration, nStep, nChange], [nGroup, nGeneration, nStep, nCode, nLeader], [nGeneration, nStep, nUnit], [nGeneration, nStep, nCode, nValue], [nGroup], [nGroup, nCode, nStatus], [nGroup, nClient, nNumber, nValue], [nGroup, nClient, nNumber, nCode, nValue], [nMachines]]
/-- An element of a map, as it is. -/
def RV (v : Value) : Option (DataW Value × List MemPlace) := some (.held v, [])
/-- A map out of entries. -/
def mkM (L : List (Lit × Value)) : DataW Value := L.foldl (fun D e => D.put e.1 (.held e.2)) (.map [])
theorem mkM_snoc (L : List (Lit × Value)) (k : Lit) (v : Value) : mkM (L ++ [(k, v)]) = (mkM L).put k (.held v) := by unfold mkM; rw [List.foldl_append]; rfl
theorem mkM_isMap : ∀ L : List (Lit × Value), IsMap (mkM L) := by
  intro L
  unfold mkM
  have : ∀ (D : DataW Value), IsMap D → IsMap (L.foldl (fun D e => D.put e.1 (.held e.2)) D) := by
    induction L with
    | nil => exact fun D h => h
    | cons e L ih => exact fun D h => ih _ (h.put _ _)
  exact this _ Go.Maps.isMap_empty
theorem mkM_not : ∀ (L : List (Lit × Value)) (k : Lit), (∀ e ∈ L, e.1 ≠ k) → Go.Maps.has (mkM L) k = false ∧ ∀ z, (mkM L).atKey k z = z := by
  intro L k
  unfold mkM
  have : ∀ (D : DataW Value), (Go.Maps.has D k = false ∧ ∀ z, D.atKey k z = z) → (∀ e ∈ L, e.1 ≠ k) → Go.Maps.has (L.foldl (fun D e => D.put e.1 (.held e.2)) D) k = false ∧ ∀ z, (L.foldl (fun D e => D.put e.1 (.held e.2)) D).atKey k z = z := by
    induction L with
    | nil => exact fun D h _ => h
    | cons e L ih => exact fun D h hn => ih _ ⟨by rw [Go.Maps.has_put_other (hn e (by simp)).symm]; exact h.1, fun z => by rw [Go.Maps.atKey_put_other (hn e (by simp)).symm]; exact h.2 z⟩ (fun e' he' => hn e' (by simp [he']))
  exact this _ ⟨rfl, fun z => rfl⟩
theorem mkM_at (L : List (Lit × Value)) (k : Lit) (v : Value) (hk : WideAt.IsKeyLit k) (h : (k, v) ∈ L) (hd : L.Pairwise (fun a b => a.1 ≠ b.1)) : Go.Maps.has (mkM L) k = true ∧ ∀ z, (mkM L).atKey k z = .held v := by
  have key : ∀ (L : List (Lit × Value)) (D : DataW Value), IsMap D → L.Pairwise (fun a b => a.1 ≠ b.1) → ((∃ v', (k, v') ∈ L) ∨ (Go.Maps.has D k = true)) → Go.Maps.has (L.foldl (fun D e => D.put e.1 (.held e.2)) D) k = true := by
    intro L
    induction L with
    | nil => intro D _ _ h; rcases h with ⟨v', h⟩ | h; cases h; exact h
    | cons e L ih =>
      intro D hD hp h
      refine ih _ (hD.put _ _) (List.pairwise_cons.1 hp).2 ?_
      by_cases he : k = e.1
      · right; rw [he]; exact Go.Maps.has_put_same hD (by rw [← he]; exact hk) _
      · rcases h with ⟨v', h⟩ | h
        · rcases List.mem_cons.1 h with h | h
          · exact absurd (by rw [← h]) he
          · exact .inl ⟨v', h⟩
        · right; rw [Go.Maps.has_put_other he]; exact h
  have key2 : ∀ (L : List (Lit × Value)) (D : DataW Value) (z : DataW Value), IsMap D → L.Pairwise (fun a b => a.1 ≠ b.1) → ((k, v) ∈ L ∨ (D.atKey k z = .held v ∧ ∀ e ∈ L, e.1 ≠ k)) → (L.foldl (fun D e => D.put e.1 (.held e.2)) D).atKey k z = .held v := by
    intro L
    induction L with
    | nil => intro D z _ _ h; rcases h with h | h; cases h; exact h.1
    | cons e L ih =>
      intro D z hD hp h
      refine ih _ z (hD.put _ _) (List.pairwise_cons.1 hp).2 ?_
      rcases h with h | h
      · rcases List.mem_cons.1 h with h | h
        · right
          subst h
          exact ⟨Go.Maps.atKey_put_same hD hk _ _, fun e' he' => ((List.pairwise_cons.1 hp).1 e' he').symm⟩
        · exact .inl h
      · right
        exact ⟨by rw [Go.Maps.atKey_put_other (h.2 e (by simp)).symm]; exact h.1, fun e' he' => h.2 e' (by simp [he'])⟩
  exact ⟨key L _ Go.Maps.isMap_empty hd (.inl ⟨v, h⟩), fun z => key2 L _ z Go.Maps.isMap_empty hd (.inl h)⟩
section
variable {P : Program} {w : World} {ops : Array Oper} {rest : List Oper} {o : Oper} {a : Act} {Q : Exit → Act → World → Prop}
theorem wpList_insert_held (hgd : o.guard = none) (m x v : Operand) (t : TypeId) (hop : o.op = .insert t m x v)
    (k e : TypeId) (KK : Keyed P k) (ht : P.underlying t = some (.map k e)) (b n : Nat) (D : DataW Value)
    (hm : a.eval m = .map (some b)) (hown : w.ownsMap P k RV b n D) (hn : n < maxLen) (key val : Value) (kl : Lit) (hx : a.eval x = key) (hv : a.eval v = val) (hkey : keyOf P k key = some kl)
    (hK : ∀ w', w'.ownsMap P k RV b (n + 1) (D.put kl (.held val)) → Touch [b] w w' → wpList P ops Q rest (a.put o.dst undef) w') : wpList P ops Q (o :: rest) a w := by
  refine wpList_plain hgd fun K' hK' => ?_
  obtain ⟨w', hrun, r1, r2⟩ := hown.store KK ht hn hkey (d := .held val) (ps := []) rfl
  unfold Oper.wp
  simp [execOp, hop, hm, hx, hv, hrun, Result.andThen]
  exact hK' _ _ (hK w' r1 (Touch.map r2))
theorem wpList_lookup_held (hgd : o.guard = none) (m x : Operand) (t : TypeId) (hop : o.op = .lookup t m x false)
    (k e : TypeId) (KK : Keyed P k) (ht : P.underlying t = some (.map k e)) {z : Value} (hz : (zeroValue e).run P w = .ok z w) (b n : Nat) (D : DataW Value)
    (hm : a.eval m = .map (some b)) (hown : w.ownsMap P k RV b n D) (key val : Value) (kl : Lit) (hx : a.eval x = key) (hkey : keyOf P k key = some kl) (hat : ∀ z, D.atKey kl z = .held val)
    (hK : wpList P ops Q rest (a.put o.dst val) w) : wpList P ops Q (o :: rest) a w := by
  refine wpList_plain hgd fun K' hK' => ?_
  obtain ⟨v, ps, hrun, hv⟩ := hown.lookup KK ht hz (zd := .held z) (zp := []) rfl hkey
  have e : v = val := by
    rw [hat] at hv
    simp only [RV, Option.some.injEq, Prod.mk.injEq, DataW.held.injEq] at hv
    exact hv.1
  subst e
  unfold Oper.wp
  simp [execOp, hop, hm, hx, hrun, Result.andThen]
  exact hK' _ _ hK
theorem wpList_lookup_ok_held (hgd : o.guard = none) (m x : Operand) (t : TypeId) (hop : o.op = .lookup t m x true)
    (k e : TypeId) (KK : Keyed P k) (ht : P.underlying t = some (.map k e)) {z : Value} (hz : (zeroValue e).run P w = .ok z w) (b n : Nat) (D : DataW Value)
    (hm : a.eval m = .map (some b)) (hown : w.ownsMap P k RV b n D) (key val : Value) (kl : Lit) (is : Bool) (hx : a.eval x = key) (hkey : keyOf P k key = some kl) (hat : D.atKey kl (.held z) = .held val) (hhas : Go.Maps.has D kl = is)
    (hK : wpList P ops Q rest (a.put o.dst (.tuple #[val, .bool is])) w) : wpList P ops Q (o :: rest) a w := by
  refine wpList_plain hgd fun K' hK' => ?_
  obtain ⟨v, ps, hrun, hv⟩ := hown.look_ok KK ht hz (zd := .held z) (zp := []) rfl hkey
  have e : v = val := by
    rw [hat] at hv
    simp only [RV, Option.some.injEq, Prod.mk.injEq, DataW.held.injEq] at hv
    exact hv.1
  subst e
  subst hhas
  unfold Oper.wp
  simp [execOp, hop, hm, hx, hrun, Result.andThen]
  exact hK' _ _ hK
end
def strCells (l : List ByteArray) : List Value := l.map .string
def useVal (g : Nat) (l : List ByteArray) : Value := .slice (some ⟨g, 0, none⟩) l.length l.length
end Go.Proofs.Ytpbgelhjbfckcaa
/- uses: the names of the fields that a kind of messages uses. -/
namespace Go.Proofs.Ytpbgelhjbfckcaa
open Go.ChangeMaps Go.ChangeShapes Go.WideShapes Go.ChangeAt Go.RowKit
open Go.Maps (Keyed IsMap)
set_option linter.unusedVariables false
set_option linter.unusedSimpArgs false

theorem Own.awayV {w0 W W' : World} {S T : List Nat} {L : List (Nat × TypeId × List Value)} (h : Own w0 S L W) (ht : Touch T W W') (hT : ∀ s ∈ T, s ∈ S ∨ (w0.heap.size ≤ s ∧ s ∉ L.map (·.1))) : Own w0 S L W' :=
  ⟨fun e he => ⟨(h.has e he).1.touch ht (fun hm => by
    rcases hT _ hm with h1 | ⟨_, h1⟩
    · have := h.old _ h1; have := (h.has e he).2; omega
    · exact h1 (List.mem_map.2 ⟨e, he, rfl⟩)), (h.has e he).2⟩, h.apart, h.touch.next ht (fun t hm => (hT t hm).imp id (·.1)), h.old⟩
section
variable {P : Program} {w : World} {ops : Array Oper} {rest : List Oper} {d : Option Tmp} {ty : TypeId} {p : String} {af : Array Edge} {g : Option (Nat × Bool)} {a : Act} {Q : Exit → Act → World → Prop}
theorem at_insert (t : TypeId) (m k v : Operand) (h : wpList P ops Q ({ dst := d, op := .insert t m k v, type := ty, pos := p, after := af, guard := g } :: rest) a w) : wpList P ops Q ({ dst := d, op := .insert t m k v, type := ty, pos := p, after := af, guard := g } :: rest) a w := h
theorem at_lookup_ (t : TypeId) (m k : Operand) (is : Bool) (h : wpList P ops Q ({ dst := d, op := .lookup t m k is, type := ty, pos := p, after := af, guard := g } :: rest) a w) : wpList P ops Q ({ dst := d, op := .lookup t m k is, type := ty, pos := p, after := af, guard := g } :: rest) a w := h
end
section
variable {w0 w W : World} {ops : Array Oper} {rest : List Oper} {o : Oper} {a : Act} {Q : Exit → Act → World → Prop}
/-- While the table of uses is filled. -/
structure Us (w0 : World) (mb : Nat) (L : List (Int × Nat × List ByteArray)) (W : World) : Prop where
  map : W.ownsMap Try.prog 3 RV mb L.length (mkM (L.map fun e => (.int .i64 e.1, useVal e.2.1 e.2.2)))
  own : Own w0 [] (L.map fun e => (e.2.1, 9, strCells e.2.2)) W
  new : w0.heap.size ≤ mb ∧ mb < W.heap.size
  ne : ∀ e ∈ L, e.2.1 ≠ mb
theorem wpList_makeMap_use (hgd : o.guard = none) (t : TypeId) (hop : o.op = .makeMap t none) (hK : ∀ w' mb, Us w mb [] w' → Below w.heap.size w w' → wpList Try.prog ops Q rest (a.put o.dst (.map (some mb))) w') : wpList Try.prog ops Q (o :: rest) a w := by
  refine wpList_plain hgd fun K' hK' => ?_
  unfold Oper.wp execOp
  simp only [hop, Option.map_none, Sem.run_bind, run_makeMap, Result.andThen_ok]
  have hb : Below w.heap.size w (w.alloc (.map #[] 0)) := (Below.refl _ _).alloc (Nat.le_refl _) _
  exact hK' _ _ (hK _ _ ⟨World.ownsMap_made w Try.prog 3 RV, (Own.nil w [] (by simp)).step hb, ⟨Nat.le_refl _, by simp⟩, by simp⟩ hb)
theorem wpList_insert_use {mb : Nat} {L : List (Int × Nat × List ByteArray)} (h : Us w0 mb L W) (hgd : o.guard = none) (m v : Operand) (x : Int) (hop : o.op = .insert 120 m (.const (.int .i64 x)) v) (hm : a.eval m = .map (some mb)) (hwf : (Lit.int .i64 x).wf = true)
    (l : List ByteArray) (hv : a.eval v = .slice (some ⟨W.heap.size, 0, none⟩) l.length l.length) (hn : L.length < 100) {c : Array Value} (hc : c = (strCells l).toArray)
    (hK : ∀ W' g, Us w0 mb (L ++ [(x, g, l)]) W' → wpList Try.prog ops Q rest (a.put o.dst undef) W') : wpList Try.prog ops Q (o :: rest) a (W.alloc (.cells c 9)) := by
  subst hc
  have hsz := h.own.size
  refine wpList_insert_held hgd m (.const (.int .i64 x)) v 120 hop 3 93 (Go.Maps.int_keyed Try.underlying3) Try.underlying120 mb L.length _ hm (h.map.alloc _) (by unfold maxLen; omega) (.int .i64 x) _ (.int .i64 x) rfl hv (Go.Maps.keyOf_int_mk Try.underlying3 hwf) fun w' hw ht => ?_
  have hpush := h.own.push (t := 9) (cs := strCells l) (Blk.new W 9 (strCells l).toArray) ((Below.refl _ _).alloc (Nat.le_refl _) _)
  refine hK w' W.heap.size ⟨?_, ?_, ⟨h.new.1, Nat.lt_of_lt_of_le h.new.2 (Nat.le_trans (by simp) ht.size)⟩, fun e he => ?_⟩
  · rw [List.map_append, List.length_append]
    show w'.ownsMap Try.prog 3 RV mb (L.length + 1) (mkM (_ ++ [(.int .i64 x, useVal W.heap.size l)]))
    rw [mkM_snoc]
    exact hw
  · rw [List.map_append]
    refine hpush.awayV ht fun s hs => .inr ?_
    obtain rfl : s = mb := by simpa using hs
    refine ⟨h.new.1, fun hm => ?_⟩
    rw [List.map_append] at hm
    rcases List.mem_append.1 hm with hm | hm
    · rw [List.map_map] at hm
      obtain ⟨e, he, h2⟩ := List.mem_map.1 hm
      exact h.ne e he h2
    · have e : s = W.heap.size := by simpa using hm
      have := h.new.2
      omega
  · rcases List.mem_append.1 he with he | he
    · exact h.ne e he
    · obtain rfl : e = (x, W.heap.size, l) := by simpa using he
      have := h.new.2
      show W.heap.size ≠ mb
      omega
end
/-- What uses hands back: names in memory, or nothing. -/
def UsesR (w : World) (k : Int) (e : Ending) (w' : World) : Prop :=
  Below w.heap.size w w' ∧ ((k < 0 ∨ 11 < k) ∧ e = .returned (.tuple #[.slice none 0 0, .bool false]) ∨
    ∃ l g, useList[k.toNat]? = some l ∧ 0 ≤ k ∧ k ≤ 11 ∧ e = .returned (.tuple #[useVal g l, .bool true]) ∧ Blk w' g 9 (strCells l).toArray ∧ w.heap.size ≤ g)
theorem zero_sl (w : World) : (zeroValue 93).run Try.prog w = .ok (.slice none 0 0) w := by kernel_rfl
set_option maxRecDepth 100000 in
set_option maxHeartbeats 8000000 in
theorem uses_c (k : Int) (hk : (Lit.int .i64 k).wf = true) (w : World) : Calls Try.prog 40 #[.int .i64 k] w (UsesR w k) := by
  have HK := hide hk
  clear hk
  go_enter Try.func40, Try.ntmps40
  go_wp2_with (first
    | (refine wpList_makeMap_use rfl 120 rfl ?_; intro W' mb hu hb; have HU := hide hu; have HB := hide hb; clear hu hb)
    | ((with_reducible refine at_insert 120 (.tmp 7) (.const (.int .i64 0)) (.tmp 8) ?_); refine wpList_insert_use HU.out rfl (.tmp 7) (.tmp 8) 0 rfl rfl (by decide) [nMessage] rfl (by simp) rfl ?_; intro W' g0 hu; replace HU := hide hu; clear hu)
    | ((with_reducible refine at_insert 120 (.tmp 7) (.const (.int .i64 1)) (.tmp 9) ?_); refine wpList_insert_use HU.out rfl (.tmp 7) (.tmp 9) 1 rfl rfl (by decide) [nGroup, nClient, nNumber, nBody] rfl (by simp) rfl ?_; intro W' g1 hu; replace HU := hide hu; clear hu)
    | ((with_reducible refine at_insert 120 (.tmp 7) (.const (.int .i64 2)) (.tmp 10) ?_); refine wpList_insert_use HU.out rfl (.tmp 7) (.tmp 10) 2 rfl rfl (by decide) [nGroup, nClient, nNumber, nCode, nBody, nLeader] rfl (by simp) rfl ?_; intro W' g2 hu; replace HU := hide hu; clear hu)
    | ((with_reducible refine at_insert 120 (.tmp 7) (.const (.int .i64 3)) (.tmp 11) ?_); refine wpList_insert_use HU.out rfl (.tmp 7) (.tmp 11) 3 rfl rfl (by decide) [nGroup, nGeneration, nStep, nChange] rfl (by simp) rfl ?_; intro W' g3 hu; replace HU := hide hu; clear hu)
    | ((with_reducible refine at_insert 120 (.tmp 7) (.const (.int .i64 4)) (.tmp 12) ?_); refine wpList_insert_use HU.out rfl (.tmp 7) (.tmp 12) 4 rfl rfl (by decide) [nGroup, nGeneration, nStep, nCode, nLeader] rfl (by simp) rfl ?_; intro W' g4 hu; replace HU := hide hu; clear hu)
    | ((with_reducible refine at_insert 120 (.tmp 7) (.const (.int .i64 5)) (.tmp 13) ?_); refine wpList_insert_use HU.out rfl (.tmp 7) (.tmp 13) 5 rfl rfl (by decide) [nGeneration, nStep, nUnit] rfl (by simp) rfl ?_; intro W' g5 hu; replace HU := hide hu; clear hu)
    | ((with_reducible refine at_insert 120 (.tmp 7) (.const (.int .i64 6)) (.tmp 14) ?_); refine wpList_insert_use HU.out rfl (.tmp 7) (.tmp 14) 6 rfl rfl (by decide) [nGeneration, nStep, nCode, nValue] rfl (by simp) rfl ?_; intro W' g6 hu; replace HU := hide hu; clear hu)
    | ((with_reducible refine at_insert 120 (.tmp 7) (.const (.int .i64 7)) (.tmp 15) ?_); refine wpList_insert_use HU.out rfl (.tmp 7) (.tmp 15) 7 rfl rfl (by decide) [nGroup] rfl (by simp) rfl ?_; intro W' g7 hu; replace HU := hide hu; clear hu)
    | ((with_reducible refine at_insert 120 (.tmp 7) (.const (.int .i64 8)) (.tmp 16) ?_); refine wpList_insert_use HU.out rfl (.tmp 7) (.tmp 16) 8 rfl rfl (by decide) [nGroup, nCode, nStatus] rfl (by simp) rfl ?_; intro W' g8 hu; replace HU := hide hu; clear hu)
    | ((with_reducible refine at_insert 120 (.tmp 7) (.const (.int .i64 9)) (.tmp 17) ?_); refine wpList_insert_use HU.out rfl (.tmp 7) (.tmp 17) 9 rfl rfl (by decide) [nGroup, nClient, nNumber, nValue] rfl (by simp) rfl ?_; intro W' g9 hu; replace HU := hide hu; clear hu)
    | ((with_reducible refine at_insert 120 (.tmp 7) (.const (.int .i64 10)) (.tmp 18) ?_); refine wpList_insert_use HU.out rfl (.tmp 7) (.tmp 18) 10 rfl rfl (by decide) [nGroup, nClient, nNumber, nCode, nValue] rfl (by simp) rfl ?_; intro W' g10 hu; replace HU := hide hu; clear hu)
    | ((with_reducible refine at_insert 120 (.tmp 7) (.const (.int .i64 11)) (.tmp 19) ?_); refine wpList_insert_use HU.out rfl (.tmp 7) (.tmp 19) 11 rfl rfl (by decide) [nMachines] rfl (by simp) rfl ?_; intro W' g11 hu; replace HU := hide hu; clear hu)
    | ((with_reducible refine at_lookup_ 120 (.tmp 20) (.tmp 21) true ?_); refine Hid.out ?_))
  refine hide ?_
  obtain ⟨L, hL⟩ : ∃ L : List (Int × Nat × List ByteArray), [(0, g0, [nMessage]), (1, g1, [nGroup, nClient, nNumber, nBody]), (2, g2, [nGroup, nClient, nNumber, nCode, nBody, nLeader]), (3, g3, [nGroup, nGeneration, nStep, nChange]), (4, g4, [nGroup, nGeneration, nStep, nCode, nLeader]), (5, g5, [nGeneration, nStep, nUnit]), (6, g6, [nGeneration, nStep, nCode, nValue]), (7, g7, [nGroup]), (8, g8, [nGroup, nCode, nStatus]), (9, g9, [nGroup, nClient, nNumber, nValue]), (10, g10, [nGroup, nClient, nNumber, nCode, nValue]), (11, g11, [nMachines])] = L := ⟨_, rfl⟩
  have HU2 : Hid (Us w mb L W') := hide (by rw [← hL]; exact HU.out)
  have HKS : Hid (L.map (·.1) = [0, 1, 2, 3, 4, 5, 6, 7, 8, 9, 10, 11]) := hide (by rw [← hL]; rfl)
  have HJ : Hid (∀ j : Nat, j < 12 → ∃ l g, useList[j]? = some l ∧ ((j : Int), g, l) ∈ L) := hide (fun j hj => by
    have : j = 0 ∨ j = 1 ∨ j = 2 ∨ j = 3 ∨ j = 4 ∨ j = 5 ∨ j = 6 ∨ j = 7 ∨ j = 8 ∨ j = 9 ∨ j = 10 ∨ j = 11 := by omega
    rw [← hL]
    rcases this with rfl | rfl | rfl | rfl | rfl | rfl | rfl | rfl | rfl | rfl | rfl | rfl
    · exact ⟨[nMessage], g0, rfl, by simp⟩
    · exact ⟨[nGroup, nClient, nNumber, nBody], g1, rfl, by simp⟩
    · exact ⟨[nGroup, nClient, nNumber, nCode, nBody, nLeader], g2, rfl, by simp⟩
    · exact ⟨[nGroup, nGeneration, nStep, nChange], g3, rfl, by simp⟩
    · exact ⟨[nGroup, nGeneration, nStep, nCode, nLeader], g4, rfl, by simp⟩
    · exact ⟨[nGeneration, nStep, nUnit], g5, rfl, by simp⟩
    · exact ⟨[nGeneration, nStep, nCode, nValue], g6, rfl, by simp⟩
    · exact ⟨[nGroup], g7, rfl, by simp⟩
    · exact ⟨[nGroup, nCode, nStatus], g8, rfl, by simp⟩
    · exact ⟨[nGroup, nClient, nNumber, nValue], g9, rfl, by simp⟩
    · exact ⟨[nGroup, nClient, nNumber, nCode, nValue], g10, rfl, by simp⟩
    · exact ⟨[nMachines], g11, rfl, by simp⟩)
  clear HU hL
  clear g0 g1 g2 g3 g4 g5 g6 g7 g8 g9 g10 g11
  have HB2 : Hid (Below w.heap.size w W') := hide HU2.out.own.below
  by_cases hr : 0 ≤ k ∧ k ≤ 11
  · obtain ⟨j, rfl⟩ := Int.eq_ofNat_of_zero_le hr.1
    obtain ⟨l, g, hul, hm⟩ := HJ.out j (by omega)
    have hat := mkM_at (L.map fun e => (.int .i64 e.1, useVal e.2.1 e.2.2)) (.int .i64 j) (useVal g l) trivial (List.mem_map.2 ⟨_, hm, rfl⟩) (by
      rw [List.pairwise_map]
      have hp : (L.map (·.1)).Pairwise (· ≠ ·) := by rw [HKS.out]; decide
      rw [List.pairwise_map] at hp
      exact hp.imp (fun h e => h (by injection e)))
    have HBL : Hid (Blk W' g 9 (strCells l).toArray ∧ w.heap.size ≤ g) := hide (HU2.out.own.has (g, 9, strCells l) (List.mem_map.2 ⟨_, hm, rfl⟩))
    have HUL := hide hul
    have HR := hide hr
    have HAT := hide hat
    clear hul hm hr hat HJ HKS
    refine wpList_lookup_ok_held rfl (.tmp 20) (.tmp 21) 120 rfl 3 93 (Go.Maps.int_keyed Try.underlying3) Try.underlying120 (zero_sl _) mb _ _ rfl HU2.out.map (.int .i64 j) (useVal g l) (.int .i64 j) true rfl (Go.Maps.keyOf_int_mk Try.underlying3 HK.out) (HAT.out.2 _) HAT.out.1 ?_
    unfold useVal
    obtain ⟨n, hn⟩ : ∃ n, l.length = n := ⟨_, rfl⟩
    rw [hn]
    have HN := hide hn
    clear hn
    go_wp2_with fail
    refine bodyPost_ret (v := .tuple #[.slice (some ⟨g, 0, none⟩) n n, .bool true]) (by simp [results, Try.results40, go_sem]) rfl ?_
    exact ⟨HB2.out, .inr ⟨l, g, HUL.out, HR.out.1, HR.out.2, by unfold useVal; rw [HN.out], HBL.out.1, HBL.out.2⟩⟩
  · have hat := mkM_not (L.map fun e => (.int .i64 e.1, useVal e.2.1 e.2.2)) (.int .i64 k) (fun e he => by
      obtain ⟨x, hx, rfl⟩ := List.mem_map.1 he
      have h1 : x.1 ∈ L.map (·.1) := List.mem_map.2 ⟨x, hx, rfl⟩
      rw [HKS.out] at h1
      intro e2
      injection e2 with _ e2
      rw [e2] at h1
      simp at h1
      omega)
    have HAT := hide hat
    have HR : Hid (k < 0 ∨ 11 < k) := hide (by omega)
    clear hat hr HJ HKS
    refine wpList_lookup_ok_held rfl (.tmp 20) (.tmp 21) 120 rfl 3 93 (Go.Maps.int_keyed Try.underlying3) Try.underlying120 (zero_sl _) mb _ _ rfl HU2.out.map (.int .i64 k) (.slice none 0 0) (.int .i64 k) false rfl (Go.Maps.keyOf_int_mk Try.underlying3 HK.out) (HAT.out.2 _) HAT.out.1 ?_
    go_wp2_with fail
    refine bodyPost_ret (v := .tuple #[.slice none 0 0, .bool false]) (by simp [results, Try.results40, go_sem]) rfl ?_
    exact ⟨HB2.out, .inl ⟨HR.out, rfl⟩⟩
end Go.Proofs.Ytpbgelhjbfckcaa
/- A region with many hard operations in whatever order: by an invariant. -/
namespace Go.Proofs.Ytpbgelhjbfckcaa
open Go.ChangeMaps Go.ChangeShapes Go.WideShapes Go.ChangeAt Go.RowKit
set_option linter.unusedVariables false
set_option linter.unusedSimpArgs false

section
variable {P : Program} {md : Region.Mode} {ops : Array Oper} {Q : Exit → Act → World → Prop} {S : World → Prop}
def backEdges (ops : Array Oper) : Bool := ops.toList.zipIdx.all fun x => x.1.after.toList.all fun e => decide (e.on < x.2)
theorem all_listed (hb : backEdges ops = true) {listed : Array Bool} (hr : Region.ready md ops listed = []) : ∀ i, i < ops.size → listed.getD i true = true := by
  intro i
  induction i using Nat.strongRecOn with
  | ind i ih =>
    intro hi
    cases hl : listed.getD i true with
    | true => rfl
    | false =>
      have hn : i ∉ Region.ready md ops listed := by rw [hr]; simp
      exfalso
      apply hn
      refine mem_ready.2 ⟨hl, ops[i], by simp [hi], fun e he _ => ?_⟩
      have hlt : e.on < i := by
        unfold backEdges at hb
        rw [List.all_eq_true] at hb
        have h1 := hb (ops[i], i) (by
          rw [List.mem_zipIdx_iff_getElem?]
          simp [hi])
        rw [List.all_eq_true] at h1
        simpa using h1 e (by simpa using he)
      have h2 := ih e.on hlt (by omega)
      have hs : i < listed.size := by
        rcases Nat.lt_or_ge i listed.size with h | h
        · exact h
        · simp [Array.getD, Nat.not_lt.2 h] at hl
      have hs2 : e.on < listed.size := by omega
      simp only [Array.getD, hs2, dif_pos] at h2 ⊢
      exact h2
theorem count_set_true {l : List Bool} {i : Nat} (h : l[i]? = some false) : (l.set i true).count false + 1 = l.count false := by
  induction l generalizing i with
  | nil => simp at h
  | cons x l ih =>
    cases i with
    | zero =>
      simp only [List.getElem?_cons_zero, Option.some.injEq] at h
      subst h
      simp
    | succ i =>
      simp only [List.getElem?_cons_succ] at h
      have := ih h
      cases x <;> simp [List.set_cons_succ, List.count_cons] <;> omega
/-- Whatever order is picked: an invariant that each operation that may come up keeps. -/
theorem wpAnyH_inv (hb : backEdges ops = true) (I : Array Bool → Act → World → Prop) (hS : ∀ listed a w, I listed a w → S w)
    (hstep : ∀ listed a w i, listed.size = ops.size → I listed a w → i ∈ Region.ready md ops listed → wpOp P ops Q i (fun a' w' => I (listed.setIfInBounds i true) a' w') a w)
    (hdone : ∀ listed a w, I listed a w → (∀ i, i < ops.size → listed.getD i true = true) → Q .normal a w) :
    ∀ fuel listed a w, listed.size = ops.size → listed.toList.count false ≤ fuel → I listed a w → wpAnyH P md ops Q S fuel listed a w := by
  intro fuel
  induction fuel with
  | zero =>
    intro listed a w hs hc hI
    have hr : Region.ready md ops listed = [] := by
      rw [List.eq_nil_iff_forall_not_mem]
      intro j hj
      have h1 := (mem_ready.1 hj).1
      have hlt : j < listed.size := by
        rcases Nat.lt_or_ge j listed.size with h | h
        · exact h
        · simp [Array.getD, Nat.not_lt.2 h] at h1
      simp only [Array.getD, hlt, dif_pos] at h1
      have hm : false ∈ listed.toList := by rw [← h1]; simp
      have := List.count_pos_iff.2 hm
      omega
    exact ⟨hr, hdone listed a w hI (all_listed hb hr)⟩
  | succ fuel ih =>
    intro listed a w hs hc hI
    refine ⟨fun hr => hdone listed a w hI (all_listed hb hr), fun i hi => ?_⟩
    refine wpOp_mono (fun a' w' hI' => ⟨hS _ _ _ hI', ih _ _ _ (by simp [hs]) ?_ hI'⟩) (hstep listed a w i hs hI hi)
    have h1 := (mem_ready.1 hi).1
    have hlt : i < listed.size := by
      rcases Nat.lt_or_ge i listed.size with h | h
      · exact h
      · simp [Array.getD, Nat.not_lt.2 h] at h1
    simp only [Array.getD, hlt, dif_pos] at h1
    have h2 : listed.toList[i]? = some false := by rw [Array.getElem?_toList, Array.getElem?_eq_getElem hlt]; exact congrArg some h1
    have h3 := count_set_true h2
    rw [Array.toList_setIfInBounds]
    omega
/-- What a ready operation waits for has come up. -/
theorem ready_after {i k : Nat} {o : Oper} {listed : Array Bool} (hi : i ∈ Region.ready md ops listed) (ho : ops[i]? = some o) (h : (o.after.toList.any fun e => e.on == k && Region.binds md e) = true) : listed.getD k false = true := by
  obtain ⟨_, o', ho', hall⟩ := mem_ready.1 hi
  rw [ho] at ho'
  injection ho' with ho'
  subst ho'
  obtain ⟨e, he, h1⟩ := List.any_eq_true.1 h
  simp only [Bool.and_eq_true, beq_iff_eq] at h1
  rw [← h1.1]
  exact hall e (by simpa using he) h1.2
end
end Go.Proofs.Ytpbgelhjbfckcaa
/- Steps of a region at a frame of which little is known. -/
namespace Go.Proofs.Ytpbgelhjbfckcaa
open Go.ChangeMaps Go.ChangeShapes Go.WideShapes Go.ChangeAt Go.RowKit
set_option linter.unusedVariables false
set_option linter.unusedSimpArgs false

theorem Own.join {w0 w w' : World} {L M : List (Nat × TypeId × List Value)} (h : Own w0 [] L w) (k : Own w [] M w') : Own w0 [] (L ++ M) w' := by
  have hb := k.below
  refine ⟨fun e he => ?_, ?_, (h.step hb).touch, by simp⟩
  · rcases List.mem_append.1 he with he | he
    · exact (h.step hb).has e he
    · exact ⟨(k.has e he).1, Nat.le_trans h.size (k.has e he).2⟩
  · rw [List.map_append, List.nodup_append]
    refine ⟨h.apart, k.apart, fun a ha c hc e => ?_⟩
    obtain ⟨x, hx, rfl⟩ := List.mem_map.1 ha
    obtain ⟨y, hy, rfl⟩ := List.mem_map.1 hc
    have h1 := (h.has x hx).1.lt
    have h2 := (k.has y hy).2
    omega
section
variable {P : Program} {w : World} {ops : Array Oper} {o : Oper} {a : Act} {K : Act → World → Prop} {Q : Exit → Act → World → Prop} {E : Prop}
theorem enters {fn : Func} {f : FuncId} (hf : P.funcs[f]? = some fn) (hn : (fn.name == "runtime.NumGoroutine") = false) (hb : fn.body.isNone = false) (args : Array Value) (w : World) : (callFunc f args).run P w = .ok (.enter f args) w := by
  unfold callFunc
  simp only [Sem.run_bind, program, Sem.run, Result.andThen, hf, hn, hb]
  simp
theorem step_callV (hgd : o.guard = none) (f : FuncId) (he : ∀ args w, (callFunc f args).run P w = .ok (.enter f args) w) (args : Array Operand) (ts : Array TypeId) (ho : o.op = .call { callee := .value (.func f), args := args, argTypes := ts }) (vals : Array Value) (hv : args.map a.eval = vals)
    (hc : Calls P f vals w fun e w' => ∃ v, e = .returned v ∧ K (a.put o.dst v) w') : if Region.wanted o (yielded ops a.tmps) = true then Oper.wp P o a w K Q else E := by
  have hw : Region.wanted o (yielded ops a.tmps) = true := by simp [Region.wanted, hgd]
  rw [if_pos hw]
  subst hv
  unfold Oper.wp execOp
  simp only [ho, resolve, invoke, Deferred.ofValue, he, Sem.run_bind, Sem.run_pure, Result.andThen_ok, Act.eval, Array.append_empty, Array.empty_append]
  refine hc.mono fun e w' h => ?_
  obtain ⟨v, rfl, h⟩ := h
  exact h
theorem step_plainV (hgd : o.guard = none) (x : Operand) (ho : o.op = .move x ∨ o.op = .assign x) (v : Value) (hv : a.eval x = v) (h : K (a.put o.dst v) w) : if Region.wanted o (yielded ops a.tmps) = true then Oper.wp P o a w K Q else E := by
  have hw : Region.wanted o (yielded ops a.tmps) = true := by simp [Region.wanted, hgd]
  rw [if_pos hw]
  subst hv
  unfold Oper.wp execOp
  rcases ho with ho | ho <;> simp only [ho, Sem.run_bind, Sem.run_pure, Result.andThen_ok] <;> exact h
end
end Go.Proofs.Ytpbgelhjbfckcaa
