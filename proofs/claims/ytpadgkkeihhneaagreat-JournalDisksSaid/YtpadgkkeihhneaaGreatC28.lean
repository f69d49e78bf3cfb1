/- The reference's turnOf and zero. -/
import Derived.Test.YtpadgkkeihhneaaGreatC27
import Derived.Test.YtpadgkkeihhneaaGreatC21
namespace Go.Proofs.YtpadgkkeihhneaaGreat
set_option maxRecDepth 100000
set_option linter.unusedSimpArgs false
set_option linter.unusedVariables false
section
open List renaming getElem_toArray → qa, getElem_cons_zero → qb, getElem_cons_succ → qc, setIfInBounds_toArray → qd, set_cons_zero → qe, set_cons_succ → qf
open Go.ChangeShapes Go.WideShapes Go.ChangeAt Go.RowKit
set_option maxHeartbeats 8000000 in
theorem rturn_c (v : Value) (b : List UInt8) (at_ : Nat) (hl : b.length ≤ 1000000) (w : World) (h : Bs w v b) (hv : ∀ j, v.ownBlock = some j → j < w.heap.size) :
 Calls Tryz.prog 64 #[v, .int .i64 at_] w fun e w' => e = .returned (.int .i64 (hdrOf at_ b)) ∧ Below w.heap.size w w' := by
 have H := hide h
 obtain ⟨l1, c1, n0, e0⟩ : ∃ l1 c1 n0, rNum (b, 0) = ((l1, c1), n0) := ⟨_, _, _, rfl⟩
 have HE : Hid (rd0 b = ((l1, c1), n0)) := hide e0
 have HN0 : Hid (Calls Tryz.prog 85 #[.agg #[v, .int .i64 0]] w (Got w v.ownBlock (l1, c1) (.int .u64 n0))) := hide (by have := getNumber_c v.ownBlock (.agg #[v, .int .i64 0]) b 0 w ⟨v, rfl, h, fun _ j hj => hj⟩; rwa [e0] at this)
 have g0 : n0 < 2 ^ 64 := by have := rNum_lt b 0; rwa [e0] at this
 obtain ⟨m0, hm0⟩ : ∃ m : Int, (n0 : Int) = m := ⟨_, rfl⟩
 have p0 : 0 ≤ m0 := by omega
 have z0 : m0 ≤ 18446744073709551615 := by omega
 have HM := hide hm0
 rw [hm0] at HN0
 clear hm0 g0 e0
 obtain ⟨A, m, c, rfl, _, _, _⟩ := h.formN
 clear h hl hv
 have HO := hide (Own.nil w [] (by simp))
 go_enter Tryz.func64, Tryz.ntmps64
 go_wp2_with fail
 refine HN0.out.mono ?_
 rintro e w1 ⟨rv, he, ⟨v1, rfl, hbs, hkk⟩, hb⟩
 obtain ⟨A1, t1, q1, rfl⟩ := hbs.form2
 replace he : e = .returned (.tuple #[.agg #[.slice A1 t1 q1, .int .i64 c1], .int .u64 m0]) := he
 subst he
 replace HO := hide (HO.out.step hb)
 clear hbs hkk hb HN0
 go_wp2_with (first
  | ((with_reducible refine at_alloc 132 ?_); refine wpList_alloc_own HO.out rfl 132 rfl (zrd) rrd_info ?_; intro WA b5 hO; replace HO := hide hO; clear hO)
  | ((with_reducible refine at_store 132 (.tmp 5) ?_); refine wpList_store_own HO.out rfl 132 (.tmp 5) (.tmp 11) rfl 0 _ 0 _ _ ([.slice A1 t1 q1, .int .i64 c1]) ([.slice A1 t1 q1, .int .i64 c1]) rfl (.agg ([.slice A1 t1 q1, .int .i64 c1]).toArray) rfl rfl (fits_agg _) (by simp [zrd]) (splice_all rfl) rrd_size rfl ?_; intro WA hO; replace HO := hide hO; clear hO))
 by_cases hq0 : c1 ≠ 0
 ·have hd0 : (c1 != 0) = true := by simpa using hq0
  have HQ0 := hide hq0
  clear hq0
  refine wp_region_held_drew (S := fun W => ∀ j, W.cell? ⟨b5, j, none⟩ = ([.slice A1 t1 q1, .int .i64 c1] : List Value)[j]?) (by kernel_rfl) (HO.out.drew.cells 0 rfl) (fun hS0 => ?_)
  replace HO := hide HO.out.drew
  refine tk 0 ?_
  refine tk 1 ?_
  refine tk 2 ?_
  refine tk 3 ?_
  refine ty 4 (undef) rfl (Or.inr ⟨by rfl, rfl⟩) ?_
  refine ty 5 (undef) rfl (Or.inr ⟨by rfl, rfl⟩) ?_
  refine tk 6 ?_
  refine tk 7 ?_
  refine ty 8 (undef) rfl (Or.inr ⟨by rfl, rfl⟩) ?_
  refine ty 9 (undef) rfl (Or.inr ⟨by rfl, rfl⟩) ?_
  refine tk 10 ?_
  refine tk 11 ?_
  refine ty 12 (undef) rfl (Or.inr ⟨by rfl, rfl⟩) ?_
  refine ty 13 (undef) rfl (Or.inr ⟨by rfl, rfl⟩) ?_
  refine ty 14 (undef) rfl (Or.inr ⟨by rfl, rfl⟩) ?_
  refine ty 15 (undef) rfl (Or.inr ⟨by rfl, rfl⟩) ?_
  refine ty 16 (undef) rfl (Or.inr ⟨by rfl, rfl⟩) ?_
  refine tk 17 ?_
  refine tk 18 ?_
  refine ty 19 (undef) rfl (Or.inr ⟨by rfl, rfl⟩) ?_
  refine ty 20 (undef) rfl (Or.inr ⟨by rfl, rfl⟩) ?_
  refine ty 21 (undef) rfl (Or.inr ⟨by rfl, rfl⟩) ?_
  refine ty 22 (undef) rfl (Or.inr ⟨by rfl, rfl⟩) ?_
  refine ty 23 (undef) rfl (Or.inr ⟨by rfl, rfl⟩) ?_
  refine ty 24 (undef) rfl (Or.inr ⟨by rfl, rfl⟩) ?_
  refine ty 25 (undef) rfl (Or.inr ⟨by rfl, rfl⟩) ?_
  refine tk 26 ?_
  refine wpAnyH_done (by kernel_rfl) ?_ _
  go_wp2_with fail
  go_ret
  exact ⟨ret_i64e (by rw [hdrOf_ref, HE.out]; dsimp only; rw [if_neg (fun h => by have := HM.out; exact HQ0.out h.1)]; rfl), HO.out.below⟩
 ·have hd0 : (c1 != 0) = false := by simpa using hq0
  have HQ0 := hide hq0
  have HQ0 : Hid (c1 = 0) := hide (by have := HQ0.out; simpa using this)
  by_cases hq1 : m0 < 1
  ·have hd1 : decide (m0 < 1) = true := by simpa using hq1
   have HQ1 := hide hq1
   clear hq1
   refine wp_region_held_drew (S := fun W => ∀ j, W.cell? ⟨b5, j, none⟩ = ([.slice A1 t1 q1, .int .i64 c1] : List Value)[j]?) (by kernel_rfl) (HO.out.drew.cells 0 rfl) (fun hS0 => ?_)
   replace HO := hide HO.out.drew
   refine tk 0 ?_
   refine tk 1 ?_
   refine tk 2 ?_
   refine tk 3 ?_
   refine tk 4 ?_
   refine tk 5 ?_
   refine tk 6 ?_
   refine tk 7 ?_
   refine ty 8 (undef) rfl (Or.inr ⟨by rfl, rfl⟩) ?_
   refine ty 9 (undef) rfl (Or.inr ⟨by rfl, rfl⟩) ?_
   refine tk 10 ?_
   refine tk 11 ?_
   refine ty 12 (undef) rfl (Or.inr ⟨by rfl, rfl⟩) ?_
   refine ty 13 (undef) rfl (Or.inr ⟨by rfl, rfl⟩) ?_
   refine ty 14 (undef) rfl (Or.inr ⟨by rfl, rfl⟩) ?_
   refine ty 15 (undef) rfl (Or.inr ⟨by rfl, rfl⟩) ?_
   refine ty 16 (undef) rfl (Or.inr ⟨by rfl, rfl⟩) ?_
   refine tk 17 ?_
   refine tk 18 ?_
   refine ty 19 (undef) rfl (Or.inr ⟨by rfl, rfl⟩) ?_
   refine ty 20 (undef) rfl (Or.inr ⟨by rfl, rfl⟩) ?_
   refine ty 21 (undef) rfl (Or.inr ⟨by rfl, rfl⟩) ?_
   refine ty 22 (undef) rfl (Or.inr ⟨by rfl, rfl⟩) ?_
   refine ty 23 (undef) rfl (Or.inr ⟨by rfl, rfl⟩) ?_
   refine ty 24 (undef) rfl (Or.inr ⟨by rfl, rfl⟩) ?_
   refine ty 25 (undef) rfl (Or.inr ⟨by rfl, rfl⟩) ?_
   refine tk 26 ?_
   refine wpAnyH_done (by kernel_rfl) ?_ _
   go_wp2_with fail
   go_ret
   exact ⟨ret_i64e (by rw [hdrOf_ref, HE.out]; dsimp only; rw [if_neg (fun h => by have := HM.out; have := HQ1.out; have := h.2.1; omega)]; rfl), HO.out.below⟩
  ·have hd1 : decide (m0 < 1) = false := by simpa using hq1
   have HQ1 := hide hq1
   clear hq1
   by_cases hq2 : 1099511627776 ≤ m0
   ·have hd2 : decide (1099511627776 ≤ m0) = true := by simpa using hq2
    have HQ2 := hide hq2
    clear hq2
    refine wp_region_held_drew (S := fun W => ∀ j, W.cell? ⟨b5, j, none⟩ = ([.slice A1 t1 q1, .int .i64 c1] : List Value)[j]?) (by kernel_rfl) (HO.out.drew.cells 0 rfl) (fun hS0 => ?_)
    replace HO := hide HO.out.drew
    refine tk 0 ?_
    refine tk 1 ?_
    refine tk 2 ?_
    refine tk 3 ?_
    refine tk 4 ?_
    refine tk 5 ?_
    refine tk 6 ?_
    refine tk 7 ?_
    refine tk 8 ?_
    refine tk 9 ?_
    refine tk 10 ?_
    refine tk 11 ?_
    refine ty 12 (undef) rfl (Or.inr ⟨by rfl, rfl⟩) ?_
    refine ty 13 (undef) rfl (Or.inr ⟨by rfl, rfl⟩) ?_
    refine ty 14 (undef) rfl (Or.inr ⟨by rfl, rfl⟩) ?_
    refine ty 15 (undef) rfl (Or.inr ⟨by rfl, rfl⟩) ?_
    refine ty 16 (undef) rfl (Or.inr ⟨by rfl, rfl⟩) ?_
    refine tk 17 ?_
    refine tk 18 ?_
    refine ty 19 (undef) rfl (Or.inr ⟨by rfl, rfl⟩) ?_
    refine ty 20 (undef) rfl (Or.inr ⟨by rfl, rfl⟩) ?_
    refine ty 21 (undef) rfl (Or.inr ⟨by rfl, rfl⟩) ?_
    refine ty 22 (undef) rfl (Or.inr ⟨by rfl, rfl⟩) ?_
    refine ty 23 (undef) rfl (Or.inr ⟨by rfl, rfl⟩) ?_
    refine ty 24 (undef) rfl (Or.inr ⟨by rfl, rfl⟩) ?_
    refine ty 25 (undef) rfl (Or.inr ⟨by rfl, rfl⟩) ?_
    refine tk 26 ?_
    refine wpAnyH_done (by kernel_rfl) ?_ _
    go_wp2_with fail
    go_ret
    exact ⟨ret_i64e (by rw [hdrOf_ref, HE.out]; dsimp only; rw [if_neg (fun h => by have := HM.out; have := HQ2.out; have := h.2.2.1; omega)]; rfl), HO.out.below⟩
   ·have hd2 : decide (1099511627776 ≤ m0) = false := by simpa using hq2
    have HQ2 := hide hq2
    clear hq2
    have y0 : m0 ≤ 1099511627775 := by have := HQ2.out; omega
    have w0 : IntKind.i64.wrap m0 = m0 := IntWalk.i64_in _ (by omega)
    have tm : m0.tmod 2 = m0 % 2 := Int.tmod_eq_emod_of_nonneg p0
    by_cases hq3 : m0 % 2 ≠ (at_ : Int)
    ·have hd3 : (m0 % 2 != (at_ : Int)) = true := by simpa using hq3
     have HQ3 := hide hq3
     clear hq3
     refine wp_region_held_drew (S := fun W => ∀ j, W.cell? ⟨b5, j, none⟩ = ([.slice A1 t1 q1, .int .i64 c1] : List Value)[j]?) (by kernel_rfl) (HO.out.drew.cells 0 rfl) (fun hS0 => ?_)
     replace HO := hide HO.out.drew
     refine tk 0 ?_
     refine tk 1 ?_
     refine tk 2 ?_
     refine tk 3 ?_
     refine tk 4 ?_
     refine tk 5 ?_
     refine tk 6 ?_
     refine tk 7 ?_
     refine tk 8 ?_
     refine tk 9 ?_
     refine tk 10 ?_
     refine tk 11 ?_
     refine tk 12 ?_
     refine tk 13 ?_
     refine tk 14 ?_
     refine tk 15 ?_
     refine tk 16 ?_
     refine tk 17 ?_
     refine tk 18 ?_
     refine ty 19 (undef) rfl (Or.inr ⟨by rfl, rfl⟩) ?_
     refine ty 20 (undef) rfl (Or.inr ⟨by rfl, rfl⟩) ?_
     refine ty 21 (undef) rfl (Or.inr ⟨by rfl, rfl⟩) ?_
     refine ty 22 (undef) rfl (Or.inr ⟨by rfl, rfl⟩) ?_
     refine ty 23 (undef) rfl (Or.inr ⟨by rfl, rfl⟩) ?_
     refine ty 24 (undef) rfl (Or.inr ⟨by rfl, rfl⟩) ?_
     refine ty 25 (undef) rfl (Or.inr ⟨by rfl, rfl⟩) ?_
     refine tk 26 ?_
     refine wpAnyH_done (by kernel_rfl) ?_ _
     go_wp2_with fail
     go_ret
     exact ⟨ret_i64e (by rw [hdrOf_ref, HE.out]; dsimp only; rw [if_neg (fun h => by have := HM.out; have := HQ3.out; have := h.2.2.2.1; omega)]; rfl), HO.out.below⟩
    ·have hd3 : (m0 % 2 != (at_ : Int)) = false := by simpa using hq3
     have HQ3 := hide hq3
     clear hq3
     obtain ⟨P, hP⟩ : ∃ P, hdrPage n0 = P := ⟨_, rfl⟩
     have HBY : Hid (∀ W, Calls Tryz.prog 88 #[.int .i64 m0] W (Fresh W P)) := hide (fun W => by rw [← hP, ← HM.out]; exact rheader_c n0 (by have := HM.out; omega) W)
     have HP := hide hP
     clear hP
     cases hbo : (P == b)
     ·have hne : Hid (P ≠ b) := hide (fun h => by rw [h, beq_self_eq_true] at hbo; cases hbo)
      refine wp_region_held_drew (S := fun W => (∀ j, W.cell? ⟨b5, j, none⟩ = ([.slice A1 t1 q1, .int .i64 c1] : List Value)[j]?) ∧ (convert 35 9 (.slice A m c)).run Tryz.prog W = .ok (.string ⟨b.toArray⟩) W) (by kernel_rfl) (⟨HO.out.drew.cells 0 rfl, run_string_bs (H.out.step HO.out.drew.below)⟩) (fun hS0 => ?_)
      replace HO := hide HO.out.drew
      refine tk 0 ?_
      refine tk 1 ?_
      refine tk 2 ?_
      refine tk 3 ?_
      refine tk 4 ?_
      refine tk 5 ?_
      refine tk 6 ?_
      refine tk 7 ?_
      refine tk 8 ?_
      refine tk 9 ?_
      refine tk 10 ?_
      refine tk 11 ?_
      refine tk 12 ?_
      refine tk 13 ?_
      refine tk 14 ?_
      refine tk 15 ?_
      refine tk 16 ?_
      refine tk 17 ?_
      refine tk 18 ?_
      refine tk 19 ?_
      refine tk 20 ?_
      refine tk 23 ?_
      refine tk 24 ?_
      refine tr1 21 fun K hK => ?_
      go_simp
      refine (HBY.out _).mono ?_
      rintro e w5 ⟨v5, rfl, ho5, hb5⟩
      replace HO := hide (HO.out.step hb5)
      have HO5 := hide ho5.bs
      clear ho5 hb5
      refine hK.out _ _ (⟨HO.out.cells 0 rfl, run_string_bs (H.out.step HO.out.below)⟩) (fun hS23 => ?_)
      clear hK K
      refine heldMono (S' := (fun W => ((∀ j, W.cell? ⟨b5, j, none⟩ = ([.slice A1 t1 q1, .int .i64 c1] : List Value)[j]?) ∧ (convert 35 9 (.slice A m c)).run Tryz.prog W = .ok (.string ⟨b.toArray⟩) W) ∧ (convert 35 9 v5).run Tryz.prog W = .ok (.string ⟨P.toArray⟩) W)) (fun _ h => h.1) _ _ _ _ ?_
      have hT23 : (fun W => ((∀ j, W.cell? ⟨b5, j, none⟩ = ([.slice A1 t1 q1, .int .i64 c1] : List Value)[j]?) ∧ (convert 35 9 (.slice A m c)).run Tryz.prog W = .ok (.string ⟨b.toArray⟩) W) ∧ (convert 35 9 v5).run Tryz.prog W = .ok (.string ⟨P.toArray⟩) W) _ := ⟨⟨HO.out.cells 0 rfl, run_string_bs (H.out.step HO.out.below)⟩, run_string_bs HO5.out⟩
      try simp only [Act.put, qa, qb, qc, qd, qe, qf]
      refine tk 22 ?_
      refine tk 25 ?_
      refine tk 26 ?_
      refine wpAnyH_done (by kernel_rfl) ?_ _
      go_wp2_with fail
      go_ret
      exact ⟨ret_i64e (by rw [hdrOf_ref, HE.out]; dsimp only; rw [if_neg (fun h => by have := HM.out; exact hne.out (HP.out.symm.trans h.2.2.2.2))]; rfl), HO.out.below⟩
     ·have heq : Hid (P = b) := hide (by simpa using hbo)
      refine wp_region_held_drew (S := fun W => (∀ j, W.cell? ⟨b5, j, none⟩ = ([.slice A1 t1 q1, .int .i64 c1] : List Value)[j]?) ∧ (convert 35 9 (.slice A m c)).run Tryz.prog W = .ok (.string ⟨b.toArray⟩) W) (by kernel_rfl) (⟨HO.out.drew.cells 0 rfl, run_string_bs (H.out.step HO.out.drew.below)⟩) (fun hS0 => ?_)
      replace HO := hide HO.out.drew
      refine tk 0 ?_
      refine tk 1 ?_
      refine tk 2 ?_
      refine tk 3 ?_
      refine tk 4 ?_
      refine tk 5 ?_
      refine tk 6 ?_
      refine tk 7 ?_
      refine tk 8 ?_
      refine tk 9 ?_
      refine tk 10 ?_
      refine tk 11 ?_
      refine tk 12 ?_
      refine tk 13 ?_
      refine tk 14 ?_
      refine tk 15 ?_
      refine tk 16 ?_
      refine tk 17 ?_
      refine tk 18 ?_
      refine tk 19 ?_
      refine tk 20 ?_
      refine tk 23 ?_
      refine tk 24 ?_
      refine tr1 21 fun K hK => ?_
      go_simp
      refine (HBY.out _).mono ?_
      rintro e w5 ⟨v5, rfl, ho5, hb5⟩
      replace HO := hide (HO.out.step hb5)
      have HO5 := hide ho5.bs
      clear ho5 hb5
      refine hK.out _ _ (⟨HO.out.cells 0 rfl, run_string_bs (H.out.step HO.out.below)⟩) (fun hS23 => ?_)
      clear hK K
      refine heldMono (S' := (fun W => ((∀ j, W.cell? ⟨b5, j, none⟩ = ([.slice A1 t1 q1, .int .i64 c1] : List Value)[j]?) ∧ (convert 35 9 (.slice A m c)).run Tryz.prog W = .ok (.string ⟨b.toArray⟩) W) ∧ (convert 35 9 v5).run Tryz.prog W = .ok (.string ⟨P.toArray⟩) W)) (fun _ h => h.1) _ _ _ _ ?_
      have hT23 : (fun W => ((∀ j, W.cell? ⟨b5, j, none⟩ = ([.slice A1 t1 q1, .int .i64 c1] : List Value)[j]?) ∧ (convert 35 9 (.slice A m c)).run Tryz.prog W = .ok (.string ⟨b.toArray⟩) W) ∧ (convert 35 9 v5).run Tryz.prog W = .ok (.string ⟨P.toArray⟩) W) _ := ⟨⟨HO.out.cells 0 rfl, run_string_bs (H.out.step HO.out.below)⟩, run_string_bs HO5.out⟩
      try simp only [Act.put, qa, qb, qc, qd, qe, qf]
      refine tk 22 ?_
      refine tk 25 ?_
      refine tk 26 ?_
      refine wpAnyH_done (by kernel_rfl) ?_ _
      go_wp2_with fail
      go_ret
      exact ⟨ret_i64e (by rw [hdrOf_ref, HE.out]; dsimp only; rw [if_pos ⟨HQ0.out, by have := HM.out; have := HQ1.out; omega, by have := HM.out; have := HQ2.out; omega, by have := HM.out; have := HQ3.out; omega, HP.out.trans heq.out⟩]; exact HM.out.symm), HO.out.below⟩
end
section
open List renaming getElem_toArray → qa, getElem_cons_zero → qb, getElem_cons_succ → qc, setIfInBounds_toArray → qd, set_cons_zero → qe, set_cons_succ → qf
open Go.ChangeShapes Go.WideShapes Go.ChangeAt Go.RowKit
def allZ (b : List UInt8) : Bool := b == List.replicate b.length 0
theorem allZ_iff (b : List UInt8) : allZ b = true ↔ b = List.replicate b.length 0 := by unfold allZ; rw [beq_iff_eq]
theorem take_zero {b : List UInt8} {k : Nat} {y : UInt8} (h : b.take k = List.replicate k 0) (hy : b[k]? = some y) (h0 : y = 0) : b.take (k + 1) = List.replicate (k + 1) 0 := by
 rw [List.take_add_one, h, hy, h0, List.replicate_succ']; rfl
theorem not_zero {b : List UInt8} {k : Nat} {y : UInt8} (hy : b[k]? = some y) (h0 : y ≠ 0) : allZ b = false := by
 cases h : allZ b with
 | false => rfl
 | true =>
  rw [(allZ_iff b).1 h, List.getElem?_replicate] at hy
  split at hy
  ·injection hy with hy; exact absurd hy.symm h0
  ·cases hy
theorem u8z (y : UInt8) : u8 y = 0 ↔ y = 0 := by
 unfold u8
 constructor
 ·intro h; exact UInt8.toNat_inj.1 (by simpa using h)
 ·rintro rfl; rfl
set_option maxHeartbeats 1000000 in
theorem rzero_c (v : Value) (b : List UInt8) (hl : b.length ≤ 1000000) (w : World) (h : Bs w v b) : Calls Tryz.prog 54 #[v] w fun e w' => e = .returned (.bool (allZ b)) ∧ w = w' := by
 obtain ⟨A, m, c, rfl, hm, _, _⟩ := h.formN
 have H := hide h
 have HM : Hid (m = b.length) := hm
 have hm6 : m ≤ 1000000 := by rw [HM.out]; exact hl
 clear h hm hl
 go_enter Tryz.func54, Tryz.ntmps54
 go_wp2_with fail
 go_loopw [3] (fun v3 wr => ∃ k : Nat, k ≤ m ∧ v3 = .int .i64 k ∧ b.take k = List.replicate k 0 ∧ w = wr) (fun v3 _ => m - (intOf v3).toNat)
 case atStart => exact ⟨0, by omega, rfl, rfl, rfl⟩
 case round =>
  obtain ⟨k, hk, rfl, ht, rfl⟩ := hrel
  have HT := hide ht
  clear ht
  by_cases hlt : k < m
  ·obtain ⟨bb, off, y, rfl, _, hy, hc⟩ := H.out.at_ (k := k) hlt
   have HY := hide hy
   obtain ⟨zy, hzy⟩ : ∃ z : Int, Go.Proofs.YtpadgkkeihhneaaGreat.u8 y = z := ⟨_, rfl⟩
   have HZY : Hid (zy = 0 ↔ y = 0) := hide (by rw [← hzy]; exact u8z y)
   rw [hzy] at hc
   clear hy hzy
   by_cases h0 : zy = 0
   ·have hd : (zy != 0) = false := by simpa using h0
    go_wp2_with fail
    go_roundw
    case rel => exact ⟨k + 1, by omega, by go_num, take_zero HT.out HY.out (HZY.out.1 h0), by first | trivial | exact rfl⟩
    case measure => simp [intOf]; omega
   ·have hd : (zy != 0) = true := by simpa using h0
    go_wp2_with fail
    go_ret
    exact ⟨congrArg (fun b => Ending.returned (.bool b)) (not_zero HY.out (fun e => h0 (HZY.out.2 e))).symm, rfl⟩
  ·obtain rfl : k = m := by omega
   go_wp2_with fail
   go_ret
   refine ⟨congrArg (fun b => Ending.returned (.bool b)) ?_, rfl⟩
   refine ((allZ_iff b).2 ?_).symm
   have := HT.out
   rwa [HM.out, List.take_length] at this
theorem rdisk_size : (Tryz.prog.info? 32).map (·.size) = some 4 := by kernel_rfl
def rblkV (r : Option (List UInt8 × Nat)) : Value := .tuple #[sv ((r.map (·.1)).getD []), .int .i64 ((r.map (·.2)).getD 0 : Nat)]
/-- Between two rounds: the block is whole, or its next part is looked at. -/
def BlM (D : DS) (t i a p q : Nat) (s : List UInt8) : Prop := p = q ∧ q ≤ 4096 ∧ blk D t i a = some (s, q) ∨ p < q ∧ q ≤ 4096 ∧ s.length ≤ 96 * p ∧ blkF D t i a (half D - a - p) p q s = blk D t i a
theorem rnext {D : DS} {t i a p q : Nat} {s ys : List UInt8} {yt yi yp yq : Nat} (hlt : a + p < half D) (hbl : blkF D t i a (half D - a - p) p q s = blk D t i a) (hok : prtOk (content D (first D t + a + p)) = true)
 (hx : prtRead (content D (first D t + a + p)) = ⟨yt, yi, yp, yq, ys⟩) (hsl : s.length ≤ 96 * p) (hfit : yp < yq ∧ yq ≤ 4096 ∧ ys.length ≤ 96) (hc : yt = t ∧ yi = i ∧ yp = p ∧ (p = 0 ∨ yq = q)) : BlM D t i a (p + 1) yq (s ++ ys) := by
 by_cases hl : p + 1 = yq
 ·refine .inl ⟨hl, hfit.2.1, ?_⟩
  rw [← hbl]
  exact blkF_last D t i a _ p q s rfl hlt hok hx hc hl
 ·refine .inr ⟨by omega, hfit.2.1, by rw [List.length_append]; omega, ?_⟩
  rw [← hbl]
  exact (blkF_next D t i a _ p q s rfl hlt hok hx hc hl).symm
def L1 (A : Option Addr) (n c : Nat) (B : Option Addr) (m b b4 : Nat) (fz : Int) (fl : Bool) : List (Nat × TypeId × List Value) := [(b4, 32, [.slice A n c, .slice B m b, .int .i64 fz, .bool fl])]
set_option maxHeartbeats 8000000 in
theorem rblk_c (F : List Nat) (v : Value) (D : DS) (t i a : Nat) (ht : t ≤ 1099511629000) (hi : i ≤ 1099511627776) (ha : a ≤ 1000000) (w : World) (h : Rf w F v D) (hs : D.Sz) (hf : D.failed = false) :
 Calls Tryz.prog 84 #[v, .int .i64 t, .int .i64 i, .int .i64 a] w (Gives w (rblkV (blk D t i a))) := by
 have HF := hide hf
 have HS := hide hs
 have HA := hide ha
 have HR := hide h
 have HB0 : Hid (blkF D t i a (half D - a - 0) 0 1 [] = blk D t i a) := hide rfl
 have HCN : Hid (∀ p, a + p < half D → (content D (first D t + a + p)).length = 128) := hide (fun p hp => content_ok h.ok _ (by have := first_le hs t (a + p) hp; omega))
 have HHC := hide (fun (X : World) (k : Below w.heap.size w X) => rhalf_c F v D X (h.step k) hs)
 have HFC := hide (fun (X : World) (k : Below w.heap.size w X) => rfirst_c F v D t ht X (h.step k) hs)
 have HRC := hide (fun (p : Int) (X : World) (k : Below w.heap.size w X) => rread_c F v D p X (h.step k) (by have := hs.pend; omega) hs.hi)
 obtain ⟨A, n, c, B, m, b, vs, xs, rfl, hk⟩ := h.form
 unfold rv at HHC HFC HRC ⊢
 generalize D.fuse = fz at *
 generalize D.failed = fl at HHC HFC HRC ⊢
 clear h hk hs hf ha
 obtain ⟨zt, hzt⟩ : ∃ z : Int, (t : Int) = z := ⟨_, rfl⟩
 obtain ⟨zi, hzi⟩ : ∃ z : Int, (i : Int) = z := ⟨_, rfl⟩
 obtain ⟨za, hza⟩ : ∃ z : Int, (a : Int) = z := ⟨_, rfl⟩
 have HZ := hide (And.intro hzt (And.intro hzi hza))
 have b0 : 0 ≤ za := by omega
 have b1 : za ≤ 1000000 := by have := HA.out; omega
 rw [hzt] at HFC
 rw [hzt, hzi, hza]
 obtain ⟨zf, hzf⟩ : ∃ z : Int, (first D t : Int) = z := ⟨_, rfl⟩
 obtain ⟨zh, hzh⟩ : ∃ z : Int, (half D : Int) = z := ⟨_, rfl⟩
 rw [hzf] at HFC
 rw [hzh] at HHC
 have HH := hide (And.intro hzf hzh)
 have e0 : 0 ≤ zh := by omega
 have e1 : zh ≤ 1000000 := by have := half_le HS.out; omega
 have f0 : 0 ≤ zf := by omega
 clear hzt hzi hza ht hi hzf hzh
 have HO := hide (Own.nil w [] (by simp))
 go_enter Tryz.func84, Tryz.ntmps84
 go_wp2_with ((with_reducible refine at_box 32 (.tmp 0) ?_); refine wpList_box_own HO.out rfl 32 (.tmp 0) rfl ([.slice A n c, .slice B m b, .int .i64 fz, .bool fl]) rfl ?_; intro WA b4 hO; replace HO := hide hO; clear hO)
 replace HO : Hid (Own w [] (L1 A n c B m b b4 fz fl) _) := HO
 go_loopw [10, 11, 12] (fun v10 v11 v12 wr => ∃ (p q : Nat) (s : List UInt8), v12 = .int .i64 p ∧ v11 = .int .i64 q ∧ v10 = sv s ∧ Own w [] (L1 A n c B m b b4 fz fl) wr ∧ BlM D t i a p q s) (fun _ _ v12 _ => 5000 - (intOf v12).toNat)
 case atStart => exact ⟨0, 1, [], rfl, rfl, rfl, HO.out, .inr ⟨by omega, by omega, by simp, HB0.out⟩⟩
 case round =>
  clear HB0 HO
  obtain ⟨p, q, s, rfl, rfl, rfl, hO, hm⟩ := hrel
  have HO : Hid (Own w [] [(b4, 32, [.slice A n c, .slice B m b, .int .i64 fz, .bool fl])] wr) := hide hO
  clear hO
  obtain ⟨zp, hzp⟩ : ∃ z : Int, (p : Int) = z := ⟨_, rfl⟩
  obtain ⟨zq, hzq⟩ : ∃ z : Int, (q : Int) = z := ⟨_, rfl⟩
  have HP := hide (And.intro hzp hzq)
  have c0 : 0 ≤ zp := by omega
  rw [hzp, hzq]
  rcases hm with ⟨hpq, hq, hm⟩ | ⟨hpq, hq, hsl, hbl⟩
  ·have HM := hide hm
   have hlt : ¬ zp < zq := by omega
   have c1 : zp ≤ 4096 := by omega
   clear hm hzp hzq hpq hq
   go_wp2_with fail
   go_ret2
   refine ⟨?_, HO.out.below⟩
   rw [HM.out]
   show _ = Ending.returned (.tuple #[sv s, .int .i64 (q : Int)])
   rw [HP.out.2]
   rfl
  ·have HSL := hide hsl
   have HBL := hide hbl
   have HPQ := hide (And.intro hpq hq)
   have c1 : zp ≤ 4095 := by omega
   have c2 : zp < zq := by omega
   have c3 : zq ≤ 4096 := by omega
   clear hsl hbl hzp hzq hpq hq
   by_cases hh : zh ≤ za + zp
   ·have HM : Hid (blk D t i a = none) := hide (by rw [← HBL.out]; exact blkF_out _ _ _ _ _ _ _ _ rfl (by have := HH.out; have := HZ.out; have := HP.out; omega))
    go_wp2_with (first
     | ((with_reducible refine at_load 32 (.tmp 4) ?_); refine wpList_load_own HO.out rfl 32 (.tmp 4) rfl 0 _ 0 4 _ _ ([.slice A n c, .slice B m b, .int .i64 fz, .bool fl]) _ rfl (take_all rfl) rfl Tryz.underlying32 rfl rdisk_size ?_))
    refine (HHC.out _ HO.out.below).mono ?_
    rintro e w5 ⟨rfl, hb5⟩
    replace HO := hide (HO.out.step hb5)
    clear hb5
    go_wp2_with fail
    go_ret2
    exact ⟨by rw [HM.out]; rfl, HO.out.below⟩
   ·have hh2 : za + zp < zh := by omega
    have HLT : Hid (a + p < half D) := hide (by have := HH.out; have := HZ.out; have := HP.out; omega)
    clear hh
    go_wp2_with (first
     | ((with_reducible refine at_load 32 (.tmp 4) ?_); refine wpList_load_own HO.out rfl 32 (.tmp 4) rfl 0 _ 0 4 _ _ ([.slice A n c, .slice B m b, .int .i64 fz, .bool fl]) _ rfl (take_all rfl) rfl Tryz.underlying32 rfl rdisk_size ?_))
    refine (HHC.out _ HO.out.below).mono ?_
    rintro e w5 ⟨rfl, hb5⟩
    replace HO := hide (HO.out.step hb5)
    clear hb5
    go_wp2_with fail
    have f1 : zf ≤ 1000000 := by have := first_le HS.out t (a + p) HLT.out; have := HH.out; have := HS.out.hi; omega
    have HDR : Hid (∀ X : World, Below w.heap.size w X → Calls Tryz.prog 51 #[.agg ([.slice A n c, .slice B m b, .int .i64 fz, .bool fl] : List Value).toArray, .int .i64 (zf + za + zp)] X (RGot X (content D (first D t + a + p), 0))) := hide (fun X hX => by
     have := HRC.out (zf + za + zp) X hX
     have e : dRead D (zf + za + zp) = (content D (first D t + a + p), 0) := by
      rw [← HH.out.1, ← HZ.out.2.2, ← HP.out.1, show (first D t : Int) + a + p = ((first D t + a + p : Nat) : Int) by omega]
      exact dRead_ok HF.out _ (by have := first_le HS.out t (a + p) HLT.out; omega)
     rw [e] at this
     exact this)
    have hw1 : IntKind.i64.wrap (zf + za) = zf + za := IntWalk.i64_in _ (by omega)
    have hw2 : IntKind.i64.wrap (zf + za + zp) = zf + za + zp := IntWalk.i64_in _ (by omega)
    refine wp_region_held_drew (S := fun W => (∀ j, W.cell? ⟨b4, j, none⟩ = ([.slice A n c, .slice B m b, .int .i64 fz, .bool fl] : List Value)[j]?)) (by kernel_rfl) (HO.out.drew.cells 0 rfl) (fun hS0 => ?_)
    replace HO := hide HO.out.drew
    refine ty 0 (.agg ([.slice A n c, .slice B m b, .int .i64 fz, .bool fl]).toArray) rfl (yieldsIf_load rfl 32 (.tmp 4) rfl b4 0 4 32 ([.slice A n c, .slice B m b, .int .i64 fz, .bool fl]) ([.slice A n c, .slice B m b, .int .i64 fz, .bool fl]) _ (fun w hw => hw) (take_all rfl) rfl Tryz.underlying32 rfl rdisk_size) ?_
    refine ty 1 (.agg ([.slice A n c, .slice B m b, .int .i64 fz, .bool fl]).toArray) rfl (yieldsIf_load rfl 32 (.tmp 4) rfl b4 0 4 32 ([.slice A n c, .slice B m b, .int .i64 fz, .bool fl]) ([.slice A n c, .slice B m b, .int .i64 fz, .bool fl]) _ (fun w hw => hw) (take_all rfl) rfl Tryz.underlying32 rfl rdisk_size) ?_
    refine tk 2 ?_
    refine tk 4 ?_
    refine tk 6 ?_
    refine tr1 3 fun K hK => ?_
    go_simp
    refine (HFC.out _ (HO.out.below)).mono ?_
    rintro e w5 ⟨rfl, hb5⟩
    replace HO := hide (HO.out.step hb5)
    clear hb5
    refine hK.out _ _ (HO.out.cells 0 rfl) (fun hS5 => ?_)
    clear hK K
    try simp only [Act.put, qa, qb, qc, qd, qe, qf]
    refine tk 5 ?_
    refine tk 7 ?_
    refine tr1 8 fun K hK => ?_
    go_simp
    refine (HDR.out _ (HO.out.below)).mono ?_
    rintro e w6 ⟨v6, rfl, ho6, hb6⟩
    obtain ⟨A6, m6, c6, rfl, _, _, _⟩ := ho6.formN
    have H6 := hide ho6
    replace HO := hide (HO.out.step hb6)
    clear ho6 hb6
    refine hK.out _ _ (HO.out.cells 0 rfl) (fun hS8 => ?_)
    clear hK K
    try simp only [Act.put, qa, qb, qc, qd, qe, qf]
    refine tk 9 ?_
    refine tk 10 ?_
    refine tk 11 ?_
    refine tk 12 ?_
    refine tk 13 ?_
    refine wpAnyH_done (by kernel_rfl) ?_ _
    clear hw1 hw2 HDR
    go_wp2_with fail
    refine (rread33_c _ _ (by rw [HCN.out p HLT.out]; omega) _ H6.out.bs (fun j hj => (H6.out.lt j hj).2)).mono ?_
    rintro e w7 ⟨⟨yt, yi, yp, yq, ys⟩, rfl, hy, hb7⟩
    replace HO := hide (HO.out.step hb7)
    have HY := hide hy
    clear hy hb7 H6
    unfold pv
    obtain ⟨n0, hn0⟩ : ∃ z : Int, (yt : Int) = z := ⟨_, rfl⟩
    obtain ⟨n1, hn1⟩ : ∃ z : Int, (yi : Int) = z := ⟨_, rfl⟩
    obtain ⟨n2, hn2⟩ : ∃ z : Int, (yp : Int) = z := ⟨_, rfl⟩
    obtain ⟨n3, hn3⟩ : ∃ z : Int, (yq : Int) = z := ⟨_, rfl⟩
    have HN := hide (And.intro hn0 (And.intro hn1 (And.intro hn2 hn3)))
    dsimp only
    rw [hn0, hn1, hn2, hn3]
    clear hn0 hn1 hn2 hn3
    cases hok : prtOk (content D (first D t + a + p)) with
    | false =>
     have HM : Hid (blk D t i a = none) := hide (by rw [← HBL.out]; exact blkF_none _ _ _ _ _ _ _ _ rfl HLT.out hok)
     clear hok HY
     go_wp2_with (first
      | ((with_reducible refine at_alloc 99 ?_); refine wpList_alloc_own HO.out rfl 99 rfl (zpartC) rpart_info ?_; intro WA b16 hO; replace HO := hide hO; clear hO)
      | ((with_reducible refine at_store 99 (.tmp 15) ?_); refine wpList_store_own HO.out rfl 99 (.tmp 15) (.tmp 43) rfl 1 _ 0 _ _ ([.int .i64 n0, .int .i64 n1, .int .i64 n2, .int .i64 n3, sv ys]) ([.int .i64 n0, .int .i64 n1, .int .i64 n2, .int .i64 n3, sv ys]) rfl (.agg ([.int .i64 n0, .int .i64 n1, .int .i64 n2, .int .i64 n3, sv ys]).toArray) rfl rfl (fits_agg _) (by simp [zpartC]) (splice_all rfl) rpart_size rfl ?_; intro WA hO; replace HO := hide hO; clear hO))
     go_ret2
     exact ⟨by rw [HM.out]; rfl, HO.out.below⟩
    | true =>
     have HOK := hide hok
     have HX : Hid (prtRead (content D (first D t + a + p)) = ⟨yt, yi, yp, yq, ys⟩) := hide (HY.out hok).symm
     have HFIT : Hid (yp < yq ∧ yq ≤ 4096 ∧ ys.length ≤ 96) := hide (by
      have := (Prt.fits _).1 ((prtOk_iff _).1 hok).1
      rw [HX.out] at this
      exact ⟨this.2.2.2.2.1, this.2.2.2.1, this.2.2.2.2.2⟩)
     have m3 : n3 ≤ 4096 := by have := HFIT.out; have := HN.out; omega
     have m4 : 1 ≤ n3 := by have := HFIT.out; have := HN.out; omega
     clear hok HY
     go_wp2_with (first
      | ((with_reducible refine at_alloc 99 ?_); refine wpList_alloc_own HO.out rfl 99 rfl (zpartC) rpart_info ?_; intro WA b16 hO; replace HO := hide hO; clear hO)
      | (((with_reducible refine at_store 99 (.tmp 15) ?_); refine wpList_store_own HO.out rfl 99 (.tmp 15) (.tmp 43) rfl 1 _ 0 _ _ ([.int .i64 n0, .int .i64 n1, .int .i64 n2, .int .i64 n3, sv ys]) ([.int .i64 n0, .int .i64 n1, .int .i64 n2, .int .i64 n3, sv ys]) rfl (.agg ([.int .i64 n0, .int .i64 n1, .int .i64 n2, .int .i64 n3, sv ys]).toArray) rfl rfl (fits_agg _) (by simp [zpartC]) (splice_all rfl) rpart_size rfl ?_; intro WA hO; replace HO := hide hO; clear hO; have k16 := HO.out.cells 1 rfl; refine Hid.out ?_)))
     refine hide ?_
     by_cases q1 : n0 = zt
     ·by_cases q2 : n1 = zi
      ·by_cases q3 : n2 = zp
       ·by_cases q4 : 0 < zp
        ·by_cases q5 : n3 = zq
         ·have hcat := run_cat s ys (by have := HSL.out; have := HFIT.out.2.2; have := HP.out; omega)
          have k16 := HO.out.cells 1 rfl
          go_wp2_with fail
          replace HO := hide (HO.out.sub (M := L1 A n c B m b b4 fz fl) (by simp [L1]))
          go_roundw
          case rel => exact ⟨p + 1, yq, s ++ ys, by have := HP.out; congr 1; omega, by rw [HN.out.2.2.2]; first | done | (rw [q5]), rfl, HO.out, rnext HLT.out HBL.out HOK.out HX.out HSL.out HFIT.out (by have := HZ.out; have := HP.out; have := HN.out; have := HX.out; omega)⟩
          case measure => simp [intOf]; have := HP.out; omega
         ·have hd5 : (n3 != zq) = true := by simpa using q5
          have HM : Hid (blk D t i a = none) := hide (by rw [← HBL.out]; exact blkF_bad _ _ _ _ _ _ _ _ rfl HLT.out HOK.out HX.out (by have := HZ.out; have := HP.out; have := HN.out; have := HX.out; dsimp only; omega))
          go_wp2_with fail
          go_ret2
          exact ⟨by rw [HM.out]; rfl, HO.out.below⟩
        ·have hcat := run_cat s ys (by have := HSL.out; have := HFIT.out.2.2; have := HP.out; omega)
         have k16 := HO.out.cells 1 rfl
         go_wp2_with fail
         replace HO := hide (HO.out.sub (M := L1 A n c B m b b4 fz fl) (by simp [L1]))
         go_roundw
         case rel => exact ⟨p + 1, yq, s ++ ys, by have := HP.out; congr 1; omega, by rw [HN.out.2.2.2]; first | done | (rw [q5]), rfl, HO.out, rnext HLT.out HBL.out HOK.out HX.out HSL.out HFIT.out (by have := HZ.out; have := HP.out; have := HN.out; have := HX.out; omega)⟩
         case measure => simp [intOf]; have := HP.out; omega
       ·have HM : Hid (blk D t i a = none) := hide (by rw [← HBL.out]; exact blkF_bad _ _ _ _ _ _ _ _ rfl HLT.out HOK.out HX.out (by have := HZ.out; have := HP.out; have := HN.out; have := HX.out; dsimp only; omega))
        go_wp2_with fail
        go_ret2
        exact ⟨by rw [HM.out]; rfl, HO.out.below⟩
      ·have HM : Hid (blk D t i a = none) := hide (by rw [← HBL.out]; exact blkF_bad _ _ _ _ _ _ _ _ rfl HLT.out HOK.out HX.out (by have := HZ.out; have := HP.out; have := HN.out; have := HX.out; dsimp only; omega))
       go_wp2_with fail
       go_ret2
       exact ⟨by rw [HM.out]; rfl, HO.out.below⟩
     ·have HM : Hid (blk D t i a = none) := hide (by rw [← HBL.out]; exact blkF_bad _ _ _ _ _ _ _ _ rfl HLT.out HOK.out HX.out (by have := HZ.out; have := HP.out; have := HN.out; have := HX.out; dsimp only; omega))
      go_wp2_with fail
      go_ret2
      exact ⟨by rw [HM.out]; rfl, HO.out.below⟩
end
end Go.Proofs.YtpadgkkeihhneaaGreat
