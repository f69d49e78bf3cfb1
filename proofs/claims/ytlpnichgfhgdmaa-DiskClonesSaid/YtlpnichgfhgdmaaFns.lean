/- The law's operations in memory; data, few. -/
import Derived.Test.YtlpnichgfhgdmaaRef6
namespace Go.Proofs.Ytlpnichgfhgdmaa
open Go.ChangeShapes Go.WideShapes Go.ChangeAt Go.RowKit
set_option linter.unusedVariables false
set_option linter.unusedSimpArgs false

/-- An operation as it lies in memory. -/
structure OpV where
  kind : Int
  page : Int
  n : Int
  fill : Int
  short : Int
  sv : Value
  sl : List Int
structure OpV.Ok (w : World) (x : OpV) : Prop where
  page : -9223372036854775808 ≤ x.page ∧ x.page ≤ 9223372036854775807
  n : -9223372036854775808 ≤ x.n ∧ x.n ≤ 9223372036854775807
  fill : 0 ≤ x.fill ∧ x.fill ≤ 255
  short : 0 ≤ x.short ∧ x.short ≤ 255
  surv : Is w x.sv x.sl
def OpV.cells (x : OpV) : List Value := [.int .i64 x.kind, .int .i64 x.page, .int .i64 x.n, .int .u8 x.fill, .int .u8 x.short, x.sv]
def OpV.val (x : OpV) : Value := .agg #[.int .i64 x.kind, .int .i64 x.page, .int .i64 x.n, .int .u8 x.fill, .int .u8 x.short, x.sv]
theorem OpV.Ok.step {w w' : World} {x : OpV} (h : x.Ok w) (k : Below w.heap.size w w') : x.Ok w' := ⟨h.page, h.n, h.fill, h.short, h.surv.step k⟩
/-- The slice v holds the operations l. -/
def OpsIn (w : World) (v : Value) (l : List OpV) : Prop :=
  ∃ A c, v = .slice A l.length c ∧ l.length ≤ c ∧ c ≤ maxLen ∧ (∀ x ∈ l, x.Ok w) ∧
    (0 < l.length → ∃ g o, A = some ⟨g, o, none⟩ ∧ g < w.heap.size ∧ ∀ i (h : i < l.length) j, j < 6 → w.cell? ⟨g, o + i * 6 + j, none⟩ = (l[i].cells)[j]?)
theorem OpsIn.step {w w' : World} {v : Value} {l : List OpV} (h : OpsIn w v l) (k : Below w.heap.size w w') : OpsIn w' v l := by
  obtain ⟨A, c, e, h1, h2, h3, h4⟩ := h
  refine ⟨A, c, e, h1, h2, fun x hx => (h3 x hx).step k, fun h0 => ?_⟩
  obtain ⟨g, o, eA, hg, hc⟩ := h4 h0
  exact ⟨g, o, eA, Nat.lt_of_lt_of_le hg k.size, fun i hi j hj => (k.cell (p := ⟨g, o + i * 6 + j, none⟩) hg).trans (hc i hi j hj)⟩
theorem OpsIn.form {w : World} {v : Value} {l : List OpV} (h : OpsIn w v l) : ∃ A m c, v = .slice A m c ∧ Hid (m = l.length) ∧ m ≤ c ∧ c ≤ 9223372036854775807 := by
  obtain ⟨A, c, e, h1, h2, _⟩ := h; exact ⟨A, _, c, e, rfl, h1, by unfold maxLen at h2; omega⟩
theorem OpsIn.at_ {w : World} {A : Option Addr} {m c : Nat} {l : List OpV} (h : OpsIn w (.slice A m c) l) (i : Nat) (hi : i < l.length) :
    ∃ g o, A = some ⟨g, o, none⟩ ∧ g < w.heap.size ∧ (l[i]).Ok w ∧ ∀ j, j < 6 → w.cell? ⟨g, o + i * 6 + j, none⟩ = (l[i].cells)[j]? := by
  obtain ⟨A', c', e, h1, h2, h3, h4⟩ := h
  obtain ⟨rfl, rfl, rfl⟩ : A = A' ∧ m = l.length ∧ c = c' := by injection e with e1 e2 e3; exact ⟨e1, e2, e3⟩
  obtain ⟨g, o, rfl, hg, hc⟩ := h4 (by omega)
  exact ⟨g, o, rfl, hg, h3 _ (List.getElem_mem hi), hc i hi⟩

/-- The data of an operation. -/
def dbyte (x : OpV) (i : Nat) : UInt8 := UInt8.ofNat ((x.fill + (i : Int) % 3).toNat)
def dlen (x : OpV) : Nat := (max 0 (128 - x.short)).toNat
def dataOf (x : OpV) : List UInt8 := (List.range (dlen x)).map (dbyte x)
theorem dataOf_len (x : OpV) : (dataOf x).length = dlen x := by simp [dataOf]
/-- The first k bytes are there, the others are 0. -/
@[irreducible] def fillD (x : OpV) (n k : Nat) : Array Value := ((((List.range k).map (dbyte x)) ++ List.replicate (n - k) 0).map bv).toArray
theorem fillD_set (x : OpV) (n k : Nat) (h : k < n) : (fillD x n k).setIfInBounds k (bv (dbyte x k)) = fillD x n (k + 1) := by
  unfold fillD
  rw [List.setIfInBounds_toArray]
  congr 1
  rw [show n - k = (n - (k + 1)) + 1 by omega, List.replicate_succ, List.map_append, List.map_append, List.map_cons, List.set_append_right _ _ (by simp), List.range_succ]
  simp
theorem fillD_size (x : OpV) (n k : Nat) (h : k ≤ n) : (fillD x n k).size = n := by unfold fillD; simp; omega
theorem fillD_zero (x : OpV) (n : Nat) : fillD x n 0 = zb n := by
  unfold fillD
  apply Array.toList_inj.1
  rw [zb_list]; simp
theorem fillD_all (x : OpV) (n : Nat) : (fillD x n n).toList = ((List.range n).map (dbyte x)).map bv := by unfold fillD; simp
theorem dbyte_u8 (x : OpV) (i : Nat) (h : 0 ≤ x.fill ∧ x.fill ≤ 255) : (x.fill + (i : Int) % 3) % 256 = u8 (dbyte x i) := by
  unfold u8 dbyte
  simp only [UInt8.toNat_ofNat']
  omega
theorem ow_blk {w : World} {g base : Nat} {cs : Array Value} {l : List UInt8} {n : Nat} (h : Blk w g 5 cs) (hcs : cs.toList = l.map bv) (hn : n = l.length) (hb : base ≤ g) (hm : n ≤ maxLen) : Ow w base (.slice (some ⟨g, 0, none⟩) n n) l := by
  subst hn
  exact ⟨by simp, .inr ⟨g, l.length, cs, rfl, hb, h, Nat.le_refl _, hm, by rw [← Array.length_toList, hcs]; simp, by rw [hcs, List.take_of_length_le (by simp)]⟩⟩

def DaR (w w0 : World) (x : OpV) (n g : Nat) (v4 v13 : Value) (W : World) : Prop :=
  ∃ k : Nat, v13 = .int .i64 k ∧ k ≤ n ∧ Blk W g 5 (fillD x n k) ∧ Below w.heap.size w W ∧ g < W.heap.size ∧ Blk W w.heap.size 45 x.cells.toArray

set_option maxRecDepth 100000 in
set_option maxHeartbeats 2000000 in
theorem data_c (x : OpV) (w : World) (hx : x.Ok w) :
    Calls Try.prog 23 #[x.val] w (Fresh w (dataOf x)) := by
  obtain ⟨As, ms, cs, hsv, _, _, _⟩ := hx.surv.formN
  have hs := hx.short
  have hfl := hx.fill
  have hdl : max 0 (128 - x.short) = (dlen x : Int) := by unfold dlen; omega
  have hmk := run_make_bytes (dlen x) (by unfold dlen; omega)
  have HD := hide (dataOf_len x)
  have HL : Hid (dlen x ≤ 128) := hide (by unfold dlen; omega)
  have HFL := hide hfl
  have hl128 : (dlen x : Int) ≤ 128 := by unfold dlen; omega
  unfold OpV.val
  rw [hsv]
  generalize hn : dlen x = n at *
  go_enter Try.func23, Try.ntmps23
  go_wp2_with fail
  have hcells : x.cells.toArray = #[.int .i64 x.kind, .int .i64 x.page, .int .i64 x.n, .int .u8 x.fill, .int .u8 x.short, .slice As ms cs] := by unfold OpV.cells; rw [hsv]
  have HC := hide hcells
  clear hcells hdl hmk hs hx hsv
  go_loopw [4, 13] (fun v4 v13 wr => DaR w w x n (w.heap.size + 1) v4 v13 wr) (fun _ v13 _ => n - (intOf v13).toNat)
  case atStart =>
    refine ⟨0, rfl, Nat.zero_le _, ?_, below_two w _ _, by simp, by rw [HC.out]; exact (Blk.new w _ _).alloc _⟩
    rw [fillD_zero]
    have h := Blk.new (w.alloc (.cells #[.int .i64 x.kind, .int .i64 x.page, .int .i64 x.n, .int .u8 x.fill, .int .u8 x.short, .slice As ms cs] 45)) 5 (zb n)
    rw [World.size_alloc] at h
    exact h
  case round =>
    obtain ⟨k, rfl, hk, hblk, hb, hg, hbox⟩ := hrel
    rw [HC.out] at hbox
    have q3 := hbox.cell 3
    simp only [List.getElem?_toArray, List.getElem?_cons_zero, List.getElem?_cons_succ] at q3
    have HBLK := hide hblk
    have HB := hide hb
    have HBOX := hide hbox
    by_cases hlt : k < n
    · obtain ⟨u, hu⟩ : ∃ u, (fillD x n k)[k]? = some u := ⟨_, Array.getElem?_eq_getElem (by rw [fillD_size x n k hk]; exact hlt)⟩
      have ck := hblk.cell k
      rw [hu] at ck
      have fk := hblk.froz k
      have e3 : (k : Int).tmod 3 = (k : Int) % 3 := Int.tmod_eq_emod_of_nonneg (by omega)
      have hki : (k : Int) < (n : Int) := by omega
      have HLT := hide hlt
      have HDB := hide (dbyte_u8 x k HFL.out)
      clear hblk hb hbox hu hlt
      go_wp2_with fail
      go_roundw
      case rel =>
        refine ⟨k + 1, by go_num, HLT.out, ?_, HB.out.setCell (Nat.le_succ _) _, by simpa [World.setCell] using hg, by rw [HC.out]; exact HBOX.out.far (by simp) _⟩
        rw [HDB.out, ← fillD_set x n k HLT.out]
        exact HBLK.out.put k _
      case measure => have := HLT.out; simp [intOf]; omega
    · obtain rfl : k = n := by omega
      clear hlt hblk hb hbox
      go_wp2_with fail
      go_ret
      refine ⟨_, rfl, ow_blk HBLK.out ?_ HD.out.symm (Nat.le_succ _) (by have := HL.out; unfold maxLen; omega), HB.out⟩
      rw [fillD_all]
      unfold dataOf
      rw [hn]

/-- All lists of survivors are short, and there are few operations. -/
def fewB (l : List OpV) (most : Int) : Bool := l.all (fun x => decide (x.sl.length ≤ 20)) && decide ((l.length : Int) ≤ most)
set_option maxRecDepth 100000 in
set_option maxHeartbeats 2000000 in
theorem few_c (v : Value) (l : List OpV) (most : Int) (w : World) (h : OpsIn w v l) :
    Calls Try.prog 21 #[v, .int .i64 most] w fun e w' => e = .returned (.bool (fewB l most)) ∧ w = w' := by
  obtain ⟨A, n, c, rfl, hn, hnc, hcm⟩ := h.form
  have H := hide h
  clear h
  go_enter Try.func21, Try.ntmps21
  go_wp2_with fail
  go_loop [5] (fun v5 => ∃ k : Nat, v5 = .int .i64 k ∧ k ≤ n ∧ ∀ i (hi : i < l.length), i < k → (l[i]).sl.length ≤ 20) (fun v5 => n - (intOf v5).toNat)
  case atStart => exact ⟨0, rfl, Nat.zero_le _, fun i _ hi => by omega⟩
  case round =>
    obtain ⟨k, rfl, hk, hall⟩ := hrel
    have HALL := hide hall
    clear hall
    by_cases hlt : k < n
    · have hkl : k < l.length := by rw [← hn.out]; exact hlt
      obtain ⟨g, o, rfl, hg, hok, hc⟩ := H.out.at_ k hkl
      have q5 := hc 5 (by omega)
      simp only [OpV.cells, List.getElem?_cons_zero, List.getElem?_cons_succ] at q5
      obtain ⟨As, ms, cs, hsv, hms, _, _⟩ := hok.surv.formN
      rw [hsv] at q5
      have HMS := hide hms.out
      have hki : (k : Int) < (n : Int) := by omega
      have HLT := hide hlt
      have HKL := hide hkl
      clear hc hok hsv hms hlt
      by_cases h20 : ms ≤ 20
      · have h20i : (ms : Int) ≤ 20 := by omega
        go_wp2_with fail
        go_round
        case rel => exact ⟨k + 1, by go_num, HLT.out, fun i hi hik => by
          rcases Nat.lt_or_eq_of_le (Nat.le_of_lt_succ hik) with h1 | h1
          · exact HALL.out i hi h1
          · subst h1; rw [← HMS.out]; exact h20⟩
        case measure => have := HLT.out; simp [intOf]; omega
      · have h20i : (20 : Int) < (ms : Int) := by omega
        have e : fewB l most = false := by
          unfold fewB
          rw [Bool.and_eq_false_iff]
          left
          rw [List.all_eq_false]
          exact ⟨l[k], List.getElem_mem _, by simp; have := HMS.out; omega⟩
        have HEE := hide e
        clear e h20
        go_wp2_with fail
        go_ret
        exact ⟨by rw [HEE.out]; rfl, rfl⟩
    · obtain rfl : k = n := by omega
      have e : fewB l most = decide ((k : Int) ≤ most) := by
        unfold fewB
        rw [← hn.out]
        have : l.all (fun x => decide (x.sl.length ≤ 20)) = true := by
          rw [List.all_eq_true]
          intro x hx
          obtain ⟨i, hi, rfl⟩ := List.mem_iff_getElem.1 hx
          have := HALL.out i hi (by rw [hn.out]; exact hi)
          simpa using this
        rw [this, Bool.true_and]
      have HEE := hide e
      clear e hlt
      go_wp2_with fail
      go_ret
      exact ⟨by rw [HEE.out]; first | rfl | simp, rfl⟩
end Go.Proofs.Ytlpnichgfhgdmaa
