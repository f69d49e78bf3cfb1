/- Package checksum and its reference, function by function (Sum, Update, table, register). -/
import Derived.Test.YtmnebingmedloaaBits
import Derived.Deep.DeepCutAuto
namespace Go.Proofs.Ytmnebingmedloaa
open Go.ChangeShapes Go.WideShapes Go.ChangeAt Go.RowKit
set_option linter.unusedVariables false
attribute [local go_sem] u32_xor u32_and1 u32_poly u32_not u32_shr1 u32_shr8 u32_lo u8_ext u8_xor

theorem st_pos {x : BitVec 32} (h : x &&& 1#32 = 1#32) : st x = (x >>> 1) ^^^ 3988292384#32 := if_pos h
theorem st_neg {x : BitVec 32} (h : ¬ x &&& 1#32 = 1#32) : st x = x >>> 1 := if_neg h

set_option maxHeartbeats 1000000 in
theorem register_c (r : BitVec 32) (v : Value) (l : List UInt8) (w : World) (h : Bs w v l) :
    Calls Try.prog 20 #[.int .u32 (u32 r), v] w fun e w' => e = .returned (.int .u32 (u32 (reg r l))) ∧ w = w' := by
  obtain ⟨A, c, rfl, hc, hm⟩ := h.form
  generalize hn : l.length = n at *
  have Hn := hide hn
  clear hn
  go_enter Try.func20, Try.ntmps20
  go_wp2_with fail
  go_loop [0, 5] (fun s i => ∃ k : Nat, k ≤ n ∧ i = .int .i64 k ∧ s = .int .u32 (u32 (reg r (l.take k)))) (fun _ i => n - (intOf i).toNat)
  case atStart => exact ⟨0, Nat.zero_le _, rfl, rfl⟩
  case round =>
    obtain ⟨k, hk, rfl, rfl⟩ := hrel
    by_cases hlt : k < n
    · obtain ⟨b, off, x, rfl, hb, hx, hcell⟩ := h.at_ hlt
      have HS := hide (reg_take_succ r l k x hx)
      clear hx
      generalize reg r (l.take k) = R at *
      go_wp2_with fail
      go_loop [0, 6] (fun s j => ∃ m : Nat, m ≤ 8 ∧ j = .int .i64 m ∧ s = .int .u32 (u32 (stN m (R ^^^ ext x)))) (fun _ j => 8 - (intOf j).toNat)
      case atStart => exact ⟨0, Nat.zero_le _, rfl, rfl⟩
      case round =>
        obtain ⟨m, hm8, rfl, rfl⟩ := hrel
        have HT := hide (stN_succ m (R ^^^ ext x))
        by_cases hlt8 : m < 8
        · generalize stN m (R ^^^ ext x) = S at *
          by_cases hbit : S &&& 1#32 = 1#32
          · have hq : (u32 (S &&& 1#32) == 1) = true := by rw [u32_one]; simpa using hbit
            have HU := hide (st_pos hbit)
            clear hbit
            go_wp2_with fail
            go_round
            case rel => exact ⟨m + 1, by omega, by go_num, by rw [HT.out, HU.out, ← u32_poly, ← u32_shr1]⟩
            case measure => simp [intOf]; omega
          · have hq : (u32 (S &&& 1#32) == 1) = false := by rw [u32_one]; simpa using hbit
            have HU := hide (st_neg hbit)
            clear hbit
            go_wp2_with fail
            go_round
            case rel => exact ⟨m + 1, by omega, by go_num, by rw [HT.out, HU.out, ← u32_shr1]⟩
            case measure => simp [intOf]; omega
        · obtain rfl : m = 8 := by omega
          go_wp2_with fail
          go_round
          case rel => exact ⟨k + 1, by omega, by go_num, by rw [HS.out]⟩
          case measure => simp [intOf]; omega
    · obtain rfl : k = n := by omega
      rw [List.take_of_length_le (by rw [Hn.out]; exact Nat.le_refl _)]
      go_wp2_with fail
      go_ret
      exact ⟨rfl, rfl⟩

/-! ### The table -/
/-- The table's block when k entries are filled. -/
@[irreducible] def tabTo (k : Nat) : Array Value := Array.ofFn (n := 256) fun i => .int .u32 (if i.val < k then (u32 (tab i.val)) else 0)
theorem tabTo_size (k : Nat) : (tabTo k).size = 256 := by unfold tabTo; simp
theorem tabTo_get (k i : Nat) (hi : i < 256) : (tabTo k)[i]? = some (.int .u32 (if i < k then (u32 (tab i)) else 0)) := by
  unfold tabTo
  rw [Array.getElem?_ofFn, dif_pos hi]
theorem tabTo_succ (k : Nat) (hk : k < 256) : (tabTo k).setIfInBounds k (.int .u32 (u32 (tab k))) = tabTo (k + 1) := by
  apply Array.ext_getElem?
  intro i
  rw [Array.getElem?_setIfInBounds]
  by_cases hi : i < 256
  · rw [tabTo_get k i hi, tabTo_get (k + 1) i hi]
    by_cases he : k = i
    · subst he
      rw [if_pos rfl, if_pos (by rw [tabTo_size]; exact hk), if_pos (by omega)]
    · rw [if_neg he]
      by_cases hl : i < k
      · rw [if_pos hl, if_pos (by omega)]
      · rw [if_neg hl, if_neg (by omega)]
  · rw [if_neg (by omega), Array.getElem?_eq_none (by rw [tabTo_size]; omega), Array.getElem?_eq_none (by rw [tabTo_size]; omega)]
theorem tabTo_one (k : Nat) : (tabTo k).all (·.oneCell') = true := by
  unfold tabTo
  rw [Array.all_eq_true]
  intro i hi
  simp [Value.oneCell']
/-- The table as a value's cells. -/
def tabAll : Array Value := tabTo 256
def tabZero : Array Value := tabTo 0
theorem zero_rep (w : World) : (zeroValue 36).run Try.prog w = .ok (.agg (Array.replicate 256 (.int .u32 0))) w := by kernel_rfl
theorem zero_tab (w : World) : (zeroValue 36).run Try.prog w = .ok (.agg tabZero) w := by
  have h : tabZero = Array.replicate 256 (.int .u32 0) := by
    unfold tabZero
    apply Array.ext_getElem?
    intro i
    by_cases hi : i < 256
    · rw [tabTo_get _ _ hi, Array.getElem?_replicate, if_pos hi]; simp
    · rw [Array.getElem?_eq_none (by rw [tabTo_size]; omega), Array.getElem?_eq_none (by simp; omega)]
  rw [h]
  exact zero_rep w
/-- A block written over from its beginning. -/
theorem Blk.over {w : World} {g : Nat} {t : TypeId} {old cs : Array Value} (h : Blk w g t old) (hs : cs.size = old.size) : Blk (w.setCells g 0 cs.toList) g t cs ∧ w.grownBy (w.setCells g 0 cs.toList) (some g) := by
  have key : ∀ (vs : List Value) (o : Nat) (w : World) (old : Array Value), Blk w g t old → ∃ new, Blk (w.setCells g o vs) g t new ∧ new.size = old.size ∧ (∀ j, new[j]? = if o ≤ j ∧ j < o + vs.length ∧ j < old.size then vs[j - o]? else old[j]?) ∧ w.grownBy (w.setCells g o vs) (some g) := by
    intro vs
    induction vs with
    | nil => intro o w old h; exact ⟨old, h, rfl, fun j => by rw [if_neg (by simp; omega)], grown_refl _ _⟩
    | cons v r ih =>
      intro o w old h
      obtain ⟨new, h1, h2, h3, h4⟩ := ih (o + 1) (w.setCell ⟨g, o, none⟩ v) _ (h.put o v)
      refine ⟨new, h1, by rw [h2]; simp, fun j => ?_, grown_trans (grown_set (grown_refl _ _) o v) h4⟩
      rw [h3]
      simp only [Array.size_setIfInBounds, List.length_cons]
      by_cases hj : j < old.size
      · by_cases ho : o = j
        · subst ho
          rw [if_neg (by omega), if_pos (by omega), Array.getElem?_setIfInBounds, if_pos rfl, if_pos hj]; simp
        · by_cases hr : o + 1 ≤ j ∧ j < o + 1 + r.length
          · rw [if_pos (by omega), if_pos (by omega), show j - o = (j - (o + 1)) + 1 from by omega, List.getElem?_cons_succ]
          · rw [if_neg (by omega), if_neg (by omega), Array.getElem?_setIfInBounds, if_neg ho]
      · rw [if_neg (by omega), if_neg (by omega), Array.getElem?_eq_none (by simp; omega), Array.getElem?_eq_none (by omega)]
  obtain ⟨new, h1, h2, h3, h4⟩ := key cs.toList 0 w old h
  have : new = cs := by
    apply Array.ext_getElem?
    intro j
    rw [h3]
    by_cases hj : j < cs.size
    · rw [if_pos (by simp; omega)]; simp
    · rw [if_neg (by simp; omega), Array.getElem?_eq_none (by omega), Array.getElem?_eq_none (by omega)]
  exact ⟨this ▸ h1, h4⟩
theorem Blk.there {w : World} {g : Nat} {t : TypeId} {cs : Array Value} (h : Blk w g t cs) {n : Nat} (hn : n = cs.size) : w.there g 0 n := fun j hj => by
  rw [Nat.zero_add]
  exact ⟨by rw [h.cell, Array.getElem?_eq_getElem (by omega)]; rfl, h.froz j⟩

theorem u32_ofNat (z : Int) (h0 : 0 ≤ z) (h : z < 256) : u32 (BitVec.ofNat 32 z.toNat) = z := by unfold u32; rw [BitVec.toNat_ofNat]; omega
theorem size_eq : tabAll.size = tabZero.size := (tabTo_size 256).trans (tabTo_size 0).symm
theorem size_info : (Try.prog.info? 36).map (·.size) = some 256 := by kernel_rfl
theorem size_tab : (Try.prog.info? 36).map (·.size) = some tabAll.size := size_info.trans (by rw [show tabAll.size = 256 from tabTo_size 256])

set_option maxHeartbeats 1000000 in
theorem table_c (w : World) : Calls Try.prog 19 #[] w fun e w' => e = .returned (.agg tabAll) ∧ Below w.heap.size w w' := by
  have hz := zero_tab
  go_enter Try.func19, Try.ntmps19
  go_wp2_with fail
  have h0 : Blk ((w.alloc (.cells tabZero 36)).alloc (.cells tabZero 36)) w.heap.size 36 tabZero := (Blk.new _ _ _).alloc _
  have h1 : Blk ((w.alloc (.cells tabZero 36)).alloc (.cells tabZero 36)) (w.heap.size + 1) 36 tabZero := by
    have := Blk.new (w.alloc (.cells tabZero 36)) 36 tabZero
    simpa using this
  have hb : Below w.heap.size w ((w.alloc (.cells tabZero 36)).alloc (.cells tabZero 36)) := by go_grown
  clear hz
  generalize (w.alloc (.cells tabZero 36)).alloc (.cells tabZero 36) = w1 at *
  have hg2 : w.heap.size ≤ w.heap.size + 1 := by omega
  have hne : w.heap.size ≠ w.heap.size + 1 := by omega
  generalize w.heap.size + 1 = g2 at *
  go_loopw [5] (fun i wr => ∃ z : Int, 0 ≤ z ∧ z ≤ 256 ∧ i = .int .i64 z ∧ Blk wr w.heap.size 36 tabZero ∧ Blk wr g2 36 (tabTo z.toNat) ∧ Below w.heap.size w wr) (fun i _ => (256 - intOf i).toNat)
  case atStart => exact ⟨0, by omega, by omega, rfl, h0, h1, hb⟩
  case round =>
    clear h0 h1 hb
    obtain ⟨z, hz0, hz1, rfl, h0, h1, hb⟩ := hrel
    by_cases hlt : z < 256
    · have hc : wr.cell? ⟨g2, z.toNat, none⟩ = some (.int .u32 0) := by rw [h1.cell, tabTo_get _ _ (by omega), if_neg (by omega)]
      have hf := h1.froz z.toNat
      have HT := hide (tabTo_succ z.toNat (by omega))
      have HK := hide (u32_ofNat z hz0 hlt)
      have H0 := hide h0
      have H1 := hide h1
      have HB := hide hb
      clear h0 h1 hb
      go_wp2_with fail
      have HC := hide hc
      have HF := hide hf
      have HZ := hide hlt
      have HZ1 := hide hz1
      clear hc hf hlt hz1
      go_loop [3, 10] (fun s j => ∃ m : Nat, m ≤ 8 ∧ j = .int .i64 m ∧ s = .int .u32 (u32 (stN m (BitVec.ofNat 32 z.toNat)))) (fun _ j => 8 - (intOf j).toNat)
      case atStart => exact ⟨0, Nat.zero_le _, rfl, by simp only [stN]; rw [HK.out]⟩
      case round =>
        obtain ⟨m, hm8, rfl, rfl⟩ := hrel
        have HS := hide (stN_succ m (BitVec.ofNat 32 z.toNat))
        by_cases hlt8 : m < 8
        · generalize stN m (BitVec.ofNat 32 z.toNat) = S at *
          by_cases hbit : S &&& 1#32 = 1#32
          · have hq : (u32 (S &&& 1#32) == 1) = true := by rw [u32_one]; simpa using hbit
            have HU := hide (st_pos hbit)
            clear hbit
            go_wp2_with fail
            go_round
            case rel => exact ⟨m + 1, by omega, by go_num, by rw [HS.out, HU.out, ← u32_poly, ← u32_shr1]⟩
            case measure => simp [intOf]; omega
          · have hq : (u32 (S &&& 1#32) == 1) = false := by rw [u32_one]; simpa using hbit
            have HU := hide (st_neg hbit)
            clear hbit
            go_wp2_with fail
            go_round
            case rel => exact ⟨m + 1, by omega, by go_num, by rw [HS.out, HU.out, ← u32_shr1]⟩
            case measure => simp [intOf]; omega
        · obtain rfl : m = 8 := by omega
          have hc := HC.out
          have hf := HF.out
          have hlt := HZ.out
          go_wp2_with fail
          go_roundw
          case rel =>
            refine ⟨z + 1, by omega, by omega, rfl, H0.out.far (p := ⟨g2, z.toNat, none⟩) hne _, ?_, HB.out.setCell (p := ⟨g2, z.toNat, none⟩) hg2 _⟩
            have := H1.out.put z.toNat (.int .u32 (u32 (tab z.toNat)))
            rw [HT.out] at this
            rw [show (z + 1).toNat = z.toNat + 1 from by omega]
            exact this
          case measure => simp [intOf]; omega
    · have h2 : Blk wr g2 36 tabAll := by
        have e : z.toNat = 256 := by omega
        rw [e] at h1
        exact h1
      clear h1
      have H0 := hide h0
      have HB := hide hb
      clear h0 hb
      go_upto_region 15 with fail
      go_step
      refine wpList_load_row rfl 36 _ rfl g2 rfl 36 tabAll (0, 0) _ h2 Try.underlying36 rfl size_tab ?_
      refine wpList_store_mid rfl 36 _ _ rfl w.heap.size 0 tabAll rfl rfl (H0.out.there size_eq) size_tab (tabTo_one 256) ?_
      obtain ⟨h3, h4⟩ := H0.out.over (cs := tabAll) size_eq
      have hb2 := below_grown HB.out h4 HB.out.size (Nat.le_refl _)
      generalize wr.setCells w.heap.size 0 tabAll.toList = w5 at *
      clear h4 h2
      go_step
      go_step
      go_step
      refine wp_ret ?_
      refine bodyPost_ret (results_cell_row rfl _ _ w.heap.size 36 tabAll (0, 0) _ rfl h3 Try.underlying36 rfl size_tab) rfl ⟨rfl, hb2⟩
end Go.Proofs.Ytmnebingmedloaa
