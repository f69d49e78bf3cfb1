/- The chapter's example. -/
import Derived.Test.YtlpnichgfhgdmaaClone2
namespace Go.Proofs.Ytlpnichgfhgdmaa
open Go.ChangeShapes Go.WideShapes Go.ChangeAt Go.RowKit
set_option linter.unusedVariables false
set_option linter.unusedSimpArgs false

/-- The first k of n bytes are x, the others 0. -/
def fillTo (x : UInt8) (n k : Nat) : Array Value := ((List.replicate k x ++ List.replicate (n - k) 0).map bv).toArray
theorem fillTo_set (x : UInt8) (n k : Nat) (h : k < n) : (fillTo x n k).setIfInBounds k (bv x) = fillTo x n (k + 1) := by
  unfold fillTo
  rw [List.setIfInBounds_toArray]
  congr 1
  rw [show n - k = (n - (k + 1)) + 1 by omega, List.replicate_succ, List.map_append, List.map_append, List.map_cons, List.set_append_right _ _ (by simp), show k - (List.map bv (List.replicate k x)).length = 0 by simp, List.set_cons_zero,
    show List.replicate (k + 1) x = List.replicate k x ++ [x] from List.replicate_succ', List.map_append]
  simp
theorem fillTo_size (x : UInt8) (n k : Nat) (h : k ≤ n) : (fillTo x n k).size = n := by unfold fillTo; simp; omega
theorem fillTo_all (x : UInt8) (n : Nat) : (fillTo x n n).toList = (List.replicate n x).map bv := by unfold fillTo; simp
def full7 : List UInt8 := List.replicate 128 7
def AD : DS := dCrash (dWrite (dNew 2) 1 full7).1 [100]
theorem aw_write : (dWrite (dNew 2) 1 full7).2 = 0 := by decide +kernel
theorem aw_read : dRead AD 1 = (List.replicate 100 7 ++ List.replicate 28 0, 0) := by decide +kernel
theorem aw_pend : AD.pend.length = 0 := by decide +kernel
theorem fillTo_zero (x : UInt8) (n : Nat) : fillTo x n 0 = zb n := by
  unfold fillTo zb
  apply Array.ext'
  simp only [List.replicate_zero, List.nil_append, Nat.sub_zero, List.map_replicate, Array.toList_replicate]
theorem fillTo_get (x : UInt8) (n k : Nat) (h : k < n) : (fillTo x n k)[k]? = some (bv 0) := by
  unfold fillTo
  simp only [List.getElem?_toArray, List.map_append, List.map_replicate]
  rw [List.getElem?_append_right (by simp), List.length_replicate, Nat.sub_self, List.getElem?_replicate, if_pos (by omega)]

set_option maxRecDepth 100000 in
set_option maxHeartbeats 4000000 in
theorem awake_c (w : World) : Calls Try.prog 10 #[] w fun e w' => e = .returned (.bool true) ∧ Below w.heap.size w w' := by
  have hm : ∀ W : World, (Instr.makeSlice 28 (.int .i64 128) (.int .i64 128)).run Try.prog W = .ok (.slice (some ⟨W.heap.size, 0, none⟩) 128 128) (W.alloc (.cells (zb 128) 5)) := run_make_bytes 128 (by decide)
  go_enter Try.func10, Try.ntmps10
  go_wp2_with fail
  refine (new_c 2 (by decide) (by decide) w).mono ?_
  rintro e w1 ⟨d, F, rfl, hd, hb, hF⟩
  have HD := hide hd
  have HB := hide hb
  have HF := hide hF
  clear hd hb hF
  go_wp2_with fail
  clear hm
  have k0 : Blk (w1.alloc (.cells (zb 128) 5)) w1.heap.size 5 (fillTo 7 128 0) := by
    rw [fillTo_zero]; exact Blk.new _ _ _
  have kb : Touch [] w1 (w1.alloc (.cells (zb 128) 5)) := (Touch.refl _ _).alloc _
  generalize w1.alloc (.cells (zb 128) 5) = w2 at *
  generalize hgd : w1.heap.size = gd at *
  have HG := hide hgd
  clear hgd
  go_loopw [21] (fun i wr => ∃ k : Nat, k ≤ 128 ∧ i = .int .i64 k ∧ Blk wr gd 5 (fillTo 7 128 k) ∧ Touch [] w1 wr) (fun i _ => 128 - (intOf i).toNat)
  case atStart => exact ⟨0, by omega, rfl, k0, kb⟩
  case round =>
    clear k0 kb
    obtain ⟨k, hk, rfl, h2, hb2⟩ := hrel
    by_cases hlt : k < 128
    · have hc : wr.cell? ⟨gd, k, none⟩ = some (.int .u8 0) := by rw [h2.cell]; exact fillTo_get 7 128 k hlt
      have hf := h2.froz k
      have HK2 := hide h2
      have HB2 := hide hb2
      clear h2 hb2
      go_wp2_with fail
      go_roundw
      case rel =>
        refine ⟨k + 1, by omega, by go_num, ?_, HB2.out.set (.inr (by rw [HG.out]; exact Nat.le_refl _)) _ _⟩
        rw [← fillTo_set 7 128 k hlt]
        exact HK2.out.put k (bv 7)
      case measure => simp [intOf]; omega
    · obtain rfl : k = 128 := by omega
      have HK2 := hide h2
      have HB2 := hide hb2
      have HD2 := hide (HD.out.touch hb2 (by simp))
      clear h2 hb2
      go_wp2_with fail
      have hbs : Bs wr (.slice (some ⟨gd, 0, none⟩) 128 128) full7 := Bs.blk HK2.out (fillTo_all 7 128) 128 (by simp [full7]) (by simp [full7, maxLen])
      have hlt2 : ∀ j ∈ F, j < gd := by obtain ⟨gv, pv, h⟩ := HD.out; rw [← HG.out]; exact h.lt
      have hw := write_c d F (dNew 2) 1 _ full7 wr HD2.out hbs (fun _ j hj => by
        obtain rfl : gd = j := by injection hj
        exact ⟨fun h => by have := hlt2 _ h; omega, HK2.out.lt⟩) (by simp [dNew])
      rw [aw_write] at hw
      clear hlt hk
      refine hw.mono ?_
      rintro e w3 ⟨rfl, F3, hd3, ht3, hF3⟩
      have HD3 := hide hd3
      have HT3 := hide ht3
      have HF3 := hide hF3
      have HLT2 := hide hlt2
      clear hw hd3 ht3 hF3 hbs hlt2
      go_wp2_with fail
      have ka : Below w3.heap.size w3 (w3.alloc (Obj.cells #[Value.int .i64 100] 3)) := (Below.refl _ _).alloc (Nat.le_refl _) _
      have his : Is (w3.alloc (Obj.cells #[Value.int .i64 100] 3)) (.slice (some ⟨w3.heap.size, 0, none⟩) 1 1) [100] := by
        refine ⟨some ⟨w3.heap.size, 0, none⟩, 1, rfl, Nat.le_refl _, by unfold maxLen; omega, (fun x hx => by simp at hx; omega), fun _ => ⟨w3.heap.size, 0, rfl, by simp, fun j u hj => ?_⟩⟩
        have hb := Blk.new w3 3 #[Value.int .i64 100]
        rw [Nat.zero_add, hb.cell]
        simpa using hj
      have hlt3 : ∀ j ∈ F3, j < w3.heap.size := by obtain ⟨gv, pv, h⟩ := HD3.out; exact h.lt
      have hcr := crash_c d F3 _ _ [100] _ (HD3.out.step ka) his (fun j hj => by
        obtain rfl : w3.heap.size = j := by injection hj
        exact fun h => by have := hlt3 _ h; omega)
      have HKA := hide ka
      clear ka his hlt3
      refine hcr.mono ?_
      rintro e w4 ⟨rfl, F4, hd4, ht4, hF4⟩
      have hd4' : Disk w4 d F4 AD := hd4
      have hrd := read_c d F4 AD 1 w4 hd4'
      have HP := hide (fun w5 (h : Below w4.heap.size w4 w5) => pending_c d F4 AD w5 (hd4'.step h))
      have HT4 := hide ht4
      clear hcr hd4 hd4' ht4 hF4
      unfold ReadR at hrd
      rw [aw_read] at hrd
      go_wp2_with fail
      refine hrd.mono ?_
      rintro e w5 ⟨v, rfl, hv, _, hb5⟩
      obtain ⟨A, m, c, rfl, hml, hmc, hcm⟩ := hv.formN
      have hm128 : m = 128 := by rw [hml.out]; decide
      subst hm128
      obtain ⟨b1, o1, x1, rfl, _, hx1, hc1⟩ := hv.at_ (k := 99) (by omega)
      obtain ⟨b2, o2, x2, e2, _, hx2, hc2⟩ := hv.at_ (k := 100) (by omega)
      injection e2 with e2
      injection e2 with e2 e3
      subst e2 e3
      obtain rfl : x1 = 7 := by simpa using hx1.symm
      obtain rfl : x2 = 0 := by simpa using hx2.symm
      have hp5 := HP.out w5 hb5
      rw [aw_pend] at hp5
      have HB5 := hide hb5
      clear hrd hv hx1 hx2 hml hb5
      have z7 : u8 7 = 7 := by decide
      have z0 : u8 0 = 0 := by decide
      rw [z7] at hc1
      rw [z0] at hc2
      go_wp2_with fail
      refine hp5.mono ?_
      rintro e w6 ⟨rfl, rfl⟩
      go_wp2_with fail
      go_ret
      have n1 := HB.out.size
      have n2 := HB2.out.size
      have n3 := HT3.out.size
      have n4 := HT4.out.size
      have n5 := HKA.out.size
      have q1 : Below w.heap.size w wr := Below.touch HB.out HB2.out (by simp) (by omega)
      have q2 : Below w.heap.size w w3 := Below.touch q1 HT3.out HF.out (by omega)
      have q3 := q2.trans (HKA.out.mono (by omega : w.heap.size ≤ w3.heap.size))
      have q4 := Below.touch q3 HT4.out (fun s hs => by
        rcases HF3.out s hs with h | h
        · exact HF.out s h
        · omega) (by omega)
      exact ⟨rfl, q4.trans (HB5.out.mono (by omega))⟩
end Go.Proofs.Ytlpnichgfhgdmaa
