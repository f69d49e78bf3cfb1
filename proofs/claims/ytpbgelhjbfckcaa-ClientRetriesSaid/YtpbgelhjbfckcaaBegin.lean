/- begin: a request is opened. -/
import Derived.Test.YtpbgelhjbfckcaaAsk
namespace Go.Proofs.Ytpbgelhjbfckcaa
open Go.ChangeShapes Go.WideShapes Go.ChangeAt Go.RowKit
set_option linter.unusedVariables false
set_option linter.unusedSimpArgs false
/-- The message that begin opens. -/
def opens (S : CS) (cs : List Value) : List Value := (cs.set 2 (.int .i64 S.id)).set 3 (.int .i64 (S.number + 1))
theorem one_opens {S : CS} {cs : List Value} (h : cs.toArray.all (·.oneCell') = true) : (opens S cs).toArray.all (·.oneCell') = true := by
  simp only [List.all_toArray, List.all_eq_true] at h ⊢
  intro x hx
  rcases List.mem_or_eq_of_mem_set hx with hx | rfl
  · rcases List.mem_or_eq_of_mem_set hx with hx | rfl
    · exact h x hx
    · rfl
  · rfl
theorem cl_opened {W : World} {g b : Nat} {i m T n : Int} {o : Option (List Value)} {os : List Value} (ok : (CS.mk i m T n o).Ok) (hn : n < 1000000) (hO : os.length = 47) (hOne : os.toArray.all (·.oneCell') = true)
    (hg : Blk W g 74 #[.int .i64 i, .int .i64 m, .int .i64 T, .int .i64 (n + 1), .pointer (some ⟨b, 0, none⟩)]) (hm : Blk W b 41 os.toArray) (hbg : b ≠ g) : Cl W g ⟨i, m, T, n + 1, some os⟩ (.pointer (some ⟨b, 0, none⟩)) := by
  have h0 := ok.number.1
  dsimp only at h0
  exact ⟨hg, ⟨ok.id, ok.machines, ok.target, ⟨by show (0:Int) ≤ n + 1; omega, by show n + 1 ≤ 1000000; omega⟩, fun cs' hc => by injection hc with hc; subst hc; exact ⟨hO, hOne⟩⟩, (fun hc => by cases hc), fun cs' hc => by injection hc with hc; subst hc; exact ⟨b, hbg, rfl, hm⟩⟩
theorem wend (w : World) (g : Nat) (i m T n : Int) (o : Option (List Value)) (p : Value) (os : List Value) (h : Cl w g ⟨i, m, T, n, o⟩ p) :
    let X := ((((w.setCell ⟨g, 3, none⟩ (Value.int .i64 (n + 1))).setCell ⟨g, 4, none⟩ (.pointer (some ⟨w.heap.size, 0, none⟩))).alloc (Obj.cells os.toArray 41)).alloc (Obj.cells (zi :: zmsg).toArray 59)).drew
    Blk X g 74 #[.int .i64 i, .int .i64 m, .int .i64 T, .int .i64 (n + 1), .pointer (some ⟨w.heap.size, 0, none⟩)] ∧ X.cell? ⟨g, 2, none⟩ = some (.int .i64 T) ∧ X.cell? ⟨g, 4, none⟩ = some (.pointer (some ⟨w.heap.size, 0, none⟩)) ∧
    Blk X w.heap.size 41 os.toArray ∧ Blk X (w.heap.size + 1) 59 (zi :: zmsg).toArray ∧ Touch [g] w X := by
  intro X
  have hB : Blk X g 74 #[.int .i64 i, .int .i64 m, .int .i64 T, .int .i64 (n + 1), .pointer (some ⟨w.heap.size, 0, none⟩)] := ((((h.blk.put 3 _).put 4 _).alloc _).alloc _).drew
  have e2 : ((w.setCell ⟨g, 3, none⟩ (Value.int .i64 (n + 1))).setCell ⟨g, 4, none⟩ (.pointer (some ⟨w.heap.size, 0, none⟩))).heap.size = w.heap.size := by simp
  refine ⟨hB, hB.cell 2, hB.cell 4, ?_, ?_, (((((Touch.refl [g] w).set (by simp) 3 _).set (by simp) 4 _).alloc _).alloc _).drew⟩
  · have := ((Blk.new ((w.setCell ⟨g, 3, none⟩ (Value.int .i64 (n + 1))).setCell ⟨g, 4, none⟩ (.pointer (some ⟨w.heap.size, 0, none⟩))) 41 os.toArray).alloc (Obj.cells (zi :: zmsg).toArray 59)).drew
    rw [e2] at this; exact this
  · have := (Blk.new (((w.setCell ⟨g, 3, none⟩ (Value.int .i64 (n + 1))).setCell ⟨g, 4, none⟩ (.pointer (some ⟨w.heap.size, 0, none⟩))).alloc (Obj.cells os.toArray 41)) 59 (zi :: zmsg).toArray).drew
    rw [World.size_alloc, e2] at this; exact this
set_option maxRecDepth 100000 in
set_option maxHeartbeats 1000000 in
theorem begin_c (g : Nat) (S : CS) (p : Value) (cs : List Value) (w : World) (h : Cl w g S p) (hl : cs.length = 47) (hone : cs.toArray.all (·.oneCell') = true) (hn : S.number < 1000000) :
    Calls Try.prog 47 #[.pointer (some ⟨g, 0, none⟩), .agg cs.toArray] w fun e w' =>
      e = .returned (.agg (.int .i64 S.target :: opens S cs).toArray) ∧ (∃ q, Cl w' g { S with number := S.number + 1, opened := some (opens S cs) } q) ∧ Touch [g] w w' := by
  have hlt := h.lt
  obtain ⟨c0, c1, c2, c3, c4, f0, f1, f2, f3, f4⟩ := h.cells
  obtain ⟨i, m, T, n, o⟩ := S
  have n0 := h.ok.number.1
  dsimp only at c0 c1 c2 c3 c4 hn n0 ⊢
  have HC := hide h
  clear h
  go_enter Try.func47, Try.ntmps47
  go_wp2_with fail
  have key : ∀ cs' : List Value, (fun W => W.cell? ⟨g, 0, none⟩ = some (.int .i64 i) ∧ W.cell? ⟨g, 3, none⟩ = some (.int .i64 (n + 1))) (((w.setCell ⟨g, 3, none⟩ (Value.int .i64 (n + 1))).alloc (Obj.cells cs'.toArray 41)).alloc (Obj.cells (zi :: zmsg).toArray 59)).drew := fun cs' => ⟨(World.cell?_alloc_lt _ _ _ (by simp only [World.size_alloc, Go.World.size_setCell]; exact Nat.lt_succ_of_lt hlt)).trans ((World.cell?_alloc_lt _ _ _ (by simp only [Go.World.size_setCell]; exact hlt)).trans (((HC.out.blk.put 3 _).cell 0))), (World.cell?_alloc_lt _ _ _ (by simp only [World.size_alloc, Go.World.size_setCell]; exact Nat.lt_succ_of_lt hlt)).trans ((World.cell?_alloc_lt _ _ _ (by simp only [Go.World.size_setCell]; exact hlt)).trans (((HC.out.blk.put 3 _).cell 3)))⟩
  refine wp_region_held_drew (S := fun W => W.cell? ⟨g, 0, none⟩ = some (.int .i64 i) ∧ W.cell? ⟨g, 3, none⟩ = some (.int .i64 (n + 1))) (by kernel_rfl) (key cs) (fun hS0 => ?_)
  refine wpAnyH_take (i := 0) (v := ?vb0) rfl (by kernel_rfl) (by kernel_rfl) (by kernel_rfl) (fun _ _ _ h => h) (Or.inl ⟨by rfl, ?hyb0⟩) (by assumption) ?restb0
  case hyb0 => (intro w hSw; (try dsimp only at hSw); go_simp; first | done | (with_reducible rfl))
  try simp only [Act.put, List.getElem_toArray, List.getElem_cons_zero, List.getElem_cons_succ, List.setIfInBounds_toArray, List.set_cons_zero, List.set_cons_succ]
  refine wpAnyH_take (i := 1) (v := ?vb1) rfl (by kernel_rfl) (by kernel_rfl) (by kernel_rfl) (fun _ _ _ h => h) (Or.inl ⟨by rfl, ?hyb1⟩) (by assumption) ?restb1
  case hyb1 => (intro w hSw; (try dsimp only at hSw); go_simp; first | done | (with_reducible rfl))
  try simp only [Act.put, List.getElem_toArray, List.getElem_cons_zero, List.getElem_cons_succ, List.setIfInBounds_toArray, List.set_cons_zero, List.set_cons_succ]
  refine wpAnyH_take (i := 2) (v := ?vb2) rfl (by kernel_rfl) (by kernel_rfl) (by kernel_rfl) (fun _ _ _ h => h) (Or.inl ⟨by rfl, ?hyb2⟩) (by assumption) ?restb2
  case hyb2 => (intro w hSw; (try dsimp only at hSw); go_simp; first | done | (with_reducible rfl))
  try simp only [Act.put, List.getElem_toArray, List.getElem_cons_zero, List.getElem_cons_succ, List.setIfInBounds_toArray, List.set_cons_zero, List.set_cons_succ]
  refine wpAnyH_take (i := 3) (v := ?vb3) rfl (by kernel_rfl) (by kernel_rfl) (by kernel_rfl) (fun _ _ _ h => h) (Or.inl ⟨by rfl, ?hyb3⟩) (by assumption) ?restb3
  case hyb3 => (intro w hSw; (try dsimp only at hSw); go_simp; first | done | (with_reducible rfl))
  try simp only [Act.put, List.getElem_toArray, List.getElem_cons_zero, List.getElem_cons_succ, List.setIfInBounds_toArray, List.set_cons_zero, List.set_cons_succ]
  refine wpAnyH_take (i := 4) (v := ?vb4) rfl (by kernel_rfl) (by kernel_rfl) (by kernel_rfl) (fun _ _ _ h => h) (Or.inl ⟨by rfl, ?hyb4⟩) (by assumption) ?restb4
  case hyb4 => (intro w hSw; (try dsimp only at hSw); go_simp; first | done | (with_reducible rfl))
  try simp only [Act.put, List.getElem_toArray, List.getElem_cons_zero, List.getElem_cons_succ, List.setIfInBounds_toArray, List.set_cons_zero, List.set_cons_succ]
  refine wpAnyH_take (i := 5) (v := ?vb5) rfl (by kernel_rfl) (by kernel_rfl) (by kernel_rfl) (fun _ _ _ h => h) (Or.inl ⟨by rfl, ?hyb5⟩) (by assumption) ?restb5
  case hyb5 => (intro w hSw; (try dsimp only at hSw); go_simp; first | done | (with_reducible rfl))
  try simp only [Act.put, List.getElem_toArray, List.getElem_cons_zero, List.getElem_cons_succ, List.setIfInBounds_toArray, List.set_cons_zero, List.set_cons_succ]
  refine wpAnyH_take (i := 6) (v := ?vb6) rfl (by kernel_rfl) (by kernel_rfl) (by kernel_rfl) (fun _ _ _ h => h) (Or.inl ⟨by rfl, ?hyb6⟩) (by assumption) ?restb6
  case hyb6 => (intro w hSw; (try dsimp only at hSw); go_simp; first | done | (with_reducible rfl))
  try simp only [Act.put, List.getElem_toArray, List.getElem_cons_zero, List.getElem_cons_succ, List.setIfInBounds_toArray, List.set_cons_zero, List.set_cons_succ]
  refine wpAnyH_take (i := 7) (v := ?vb7) rfl (by kernel_rfl) (by kernel_rfl) (by kernel_rfl) (fun _ _ _ h => h) (Or.inl ⟨by rfl, ?hyb7⟩) (by assumption) ?restb7
  case hyb7 => (intro w hSw; (try dsimp only at hSw); go_simp; first | done | (with_reducible rfl))
  try simp only [Act.put, List.getElem_toArray, List.getElem_cons_zero, List.getElem_cons_succ, List.setIfInBounds_toArray, List.set_cons_zero, List.set_cons_succ]
  refine wpAnyH_take (i := 8) (v := ?vb8) rfl (by kernel_rfl) (by kernel_rfl) (by kernel_rfl) (fun _ _ _ h => h) (Or.inl ⟨by rfl, ?hyb8⟩) (by assumption) ?restb8
  case hyb8 => (intro w hSw; (try dsimp only at hSw); go_simp; first | done | (with_reducible rfl))
  try simp only [Act.put, List.getElem_toArray, List.getElem_cons_zero, List.getElem_cons_succ, List.setIfInBounds_toArray, List.set_cons_zero, List.set_cons_succ]
  refine wpAnyH_ready (rs := [9]) (by kernel_rfl) (by simp) ?_
  refine AllReadyH.cons rfl (fun K hK => ?_) AllReadyH.nil
  go_simp
  refine hK.out _ _ (key _) (fun hS9 => ?_)
  clear hK K
  try simp only [Act.put, List.getElem_toArray, List.getElem_cons_zero, List.getElem_cons_succ, List.setIfInBounds_toArray, List.set_cons_zero, List.set_cons_succ]
  refine wpAnyH_take (i := 10) (v := ?vb10) rfl (by kernel_rfl) (by kernel_rfl) (by kernel_rfl) (fun _ _ _ h => h) (Or.inl ⟨by rfl, ?hyb10⟩) (by assumption) ?restb10
  case hyb10 => (intro w hSw; (try dsimp only at hSw); go_simp; first | done | (with_reducible rfl))
  try simp only [Act.put, List.getElem_toArray, List.getElem_cons_zero, List.getElem_cons_succ, List.setIfInBounds_toArray, List.set_cons_zero, List.set_cons_succ]
  refine wpAnyH_ready (rs := [11]) (by kernel_rfl) (by simp) ?_
  refine AllReadyH.cons rfl (fun K hK => ?_) AllReadyH.nil
  go_simp
  refine hK.out _ _ (key _) (fun hS11 => ?_)
  clear hK K
  try simp only [Act.put, List.getElem_toArray, List.getElem_cons_zero, List.getElem_cons_succ, List.setIfInBounds_toArray, List.set_cons_zero, List.set_cons_succ]
  refine wpAnyH_done (by kernel_rfl) ?_ _
  clear key
  go_wp2_with fail
  have hO : (opens ⟨i, m, T, n, o⟩ cs).length = 47 := by simp [opens, hl]
  have hOne : (opens ⟨i, m, T, n, o⟩ cs).toArray.all (·.oneCell') = true := one_opens hone
  have eO : (cs.set 2 (Value.int IntKind.i64 i)).set 3 (Value.int IntKind.i64 (n + 1)) = opens ⟨i, m, T, n, o⟩ cs := rfl
  rw [eO]
  obtain ⟨os, hcs⟩ : ∃ os, opens ⟨i, m, T, n, o⟩ cs = os := ⟨_, rfl⟩
  have hcs' := hcs
  rw [hcs] at hO hOne ⊢
  have HCS := hide hcs'
  clear hcs'
  have W0 := wend w g i m T n o p os HC.out
  have HW0 := hide W0
  refine (send_raw g w.heap.size T os _ ?q1 W0.2.1 W0.2.2.1 W0.2.2.2.1 hO hOne).mono ?_
  case q1 => simp; omega
  clear W0
  rintro e w1 ⟨rfl, hbw⟩
  have HB := hide hbw
  have HO1 := hide (HW0.out.2.2.2.2.1.step hbw)
  have HM1 := hide (HW0.out.2.2.2.1.step hbw)
  have HC1 := hide (HW0.out.1.step hbw)
  have HT1 := hide (HW0.out.2.2.2.2.2.step hbw)
  clear hbw hcs eO HW0 HB
  go_wp2_with (first
    | (refine wpList_store_blk rfl 59 (.tmp 4) (.tmp 26) rfl (w.heap.size + 1) 59 (zi :: zmsg).toArray (.int .i64 T :: os).toArray rfl rfl HO1.out (by simp [hO, zmsg]) (size_out hO) (one_out hOne) ?_; intro W2 hx2 ht2 hs2; have HX2 := hide hx2; have HT2 := hide ht2; clear hx2 ht2 hs2))
  refine bodyPost_ret (results_cell_row rfl _ _ (w.heap.size + 1) 59 _ (0, 0) _ rfl HX2.out Try.underlying59 rfl (size_out hO)) rfl ?_
  have HQ := cl_opened HC.out.ok hn hO hOne (HC1.out.touch HT2.out (by simp; omega)) (HM1.out.touch HT2.out (by simp)) (by omega)
  rw [show opens ⟨i, m, T, n, o⟩ cs = os from HCS.out]
  exact ⟨rfl, ⟨_, HQ⟩, HT1.out.next HT2.out (by simp)⟩
end Go.Proofs.Ytpbgelhjbfckcaa
