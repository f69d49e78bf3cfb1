/- Number; send of a client. -/
import Derived.Test.YtpbgelhjbfckcaaS01
namespace Go.Proofs.Ytpbgelhjbfckcaa
open Go.ChangeShapes Go.WideShapes Go.ChangeAt Go.RowKit
set_option linter.unusedVariables false

theorem send_c (g : Nat) (S : CS) (p : Value) (cs : List Value) (w : World) (h : Cl w g S p) (hc : S.opened = some cs) : Calls Try.prog 28 #[.pointer (some ⟨g, 0, none⟩)] w (Sent w S.target cs) := by
  obtain ⟨b, hne, rfl, hb⟩ := h.opened cs hc
  exact send_raw g b S.target cs w h.lt h.cells.2.2.1 h.cells.2.2.2.2.1 hb (h.ok.opened cs hc).1 (h.ok.opened cs hc).2
theorem number_c (g : Nat) (S : CS) (p : Value) (w : World) (h : Cl w g S p) : Calls Try.prog 15 #[.pointer (some ⟨g, 0, none⟩)] w fun e w' => e = .returned (.int .i64 S.number) ∧ w = w' := by
  obtain ⟨c0, c1, c2, c3, c4, f0, f1, f2, f3, f4⟩ := h.cells
  obtain ⟨i, m, T, n, o⟩ := S
  dsimp only at c0 c1 c2 c3 c4 ⊢
  clear h
  go_enter Try.func15, Try.ntmps15
  go_wp2_with fail
  go_ret
  exact ⟨rfl, rfl⟩
end Go.Proofs.Ytpbgelhjbfckcaa
/- begin: a request is opened. -/
namespace Go.Proofs.Ytpbgelhjbfckcaa
open Go.ChangeShapes Go.WideShapes Go.ChangeAt Go.RowKit
set_option linter.unusedVariables false
set_option linter.unusedSimpArgs false
/-- The message that begin opens. -/
def opens (S : CS) (cs : List Value) : List Value := (cs.set 2 (.int .i64 S.id)).set 3 (.int .i64 (S.number + 1))
theorem one_opens {S : CS} {cs : List Value} (h : cs.toArray.all (·.oneCell') = true) : (opens S cs).toArray.all (·.oneCell') = true := by
  simp only [List.all_toArray, List.all_eq_true] at h ⊢
  intro x hx
  rcases List.mem_or_eq_of_mem_set hx with hx | rfl
  · rcases List.mem_or_eq_of_mem_set hx with hx | rfl
    · exact h x hx
    · rfl
  · rfl
theorem cl_opened {W : World} {g b : Nat} {i m T n : Int} {o : Option (List Value)} {os : List Value} (ok : (CS.mk i m T n o).Ok) (hn : n < 1000000) (hO : os.length = 47) (hOne : os.toArray.all (·.oneCell') = true)
    (hg : Blk W g 74 #[.int .i64 i, .int .i64 m, .int .i64 T, .int .i64 (n + 1), .pointer (some ⟨b, 0, none⟩)]) (hm : Blk W b 41 os.toArray) (hbg : b ≠ g) : Cl W g ⟨i, m, T, n + 1, some os⟩ (.pointer (some ⟨b, 0, none⟩)) := by
  have h0 := ok.number.1
  dsimp only at h0
  exact ⟨hg, ⟨ok.id, ok.machines, ok.target, ⟨by show (0:Int) ≤ n + 1; omega, by show n + 1 ≤ 1000000; omega⟩, fun cs' hc => by injection hc with hc; subst hc; exact ⟨hO, hOne⟩⟩, (fun hc => by cases hc), fun cs' hc => by injection hc with hc; subst hc; exact ⟨b, hbg, rfl, hm⟩⟩
theorem wend (w : World) (g : Nat) (i m T n : Int) (o : Option (List Value)) (p : Value) (os : List Value) (h : Cl w g ⟨i, m, T, n, o⟩ p) :
    let X := ((((w.setCell ⟨g, 3, none⟩ (Value.int .i64 (n + 1))).setCell ⟨g, 4, none⟩ (.pointer (some ⟨w.heap.size, 0, none⟩))).alloc (Obj.cells os.toArray 41)).alloc (Obj.cells (zi :: zmsg).toArray 59)).drew
    Blk X g 74 #[.int .i64 i, .int .i64 m, .int .i64 T, .int .i64 (n + 1), .pointer (some ⟨w.heap.size, 0, none⟩)] ∧ X.cell? ⟨g, 2, none⟩ = some (.int .i64 T) ∧ X.cell? ⟨g, 4, none⟩ = some (.pointer (some ⟨w.heap.size, 0, none⟩)) ∧
    Blk X w.heap.size 41 os.toArray ∧ Blk X (w.heap.size + 1) 59 (zi :: zmsg).toArray ∧ Touch [g] w X := by
  intro X
  have hB : Blk X g 74 #[.int .i64 i, .int .i64 m, .int .i64 T, .int .i64 (n + 1), .pointer (some ⟨w.heap.size, 0, none⟩)] := ((((h.blk.put 3 _).put 4 _).alloc _).alloc _).drew
  have e2 : ((w.setCell ⟨g, 3, none⟩ (Value.int .i64 (n + 1))).setCell ⟨g, 4, none⟩ (.pointer (some ⟨w.heap.size, 0, none⟩))).heap.size = w.heap.size := by simp
  refine ⟨hB, hB.cell 2, hB.cell 4, ?_, ?_, (((((Touch.refl [g] w).set (by simp) 3 _).set (by simp) 4 _).alloc _).alloc _).drew⟩
  · have := ((Blk.new ((w.setCell ⟨g, 3, none⟩ (Value.int .i64 (n + 1))).setCell ⟨g, 4, none⟩ (.pointer (some ⟨w.heap.size, 0, none⟩))) 41 os.toArray).alloc (Obj.cells (zi :: zmsg).toArray 59)).drew
    rw [e2] at this; exact this
  · have := (Blk.new (((w.setCell ⟨g, 3, none⟩ (Value.int .i64 (n + 1))).setCell ⟨g, 4, none⟩ (.pointer (some ⟨w.heap.size, 0, none⟩))).alloc (Obj.cells os.toArray 41)) 59 (zi :: zmsg).toArray).drew
    rw [World.size_alloc, e2] at this; exact this
set_option maxRecDepth 100000 in
set_option maxHeartbeats 1000000 in
theorem begin_c (g : Nat) (S : CS) (p : Value) (cs : List Value) (w : World) (h : Cl w g S p) (hl : cs.length = 47) (hone : cs.toArray.all (·.oneCell') = true) (hn : S.number < 1000000) :
    Calls Try.prog 47 #[.pointer (some ⟨g, 0, none⟩), .agg cs.toArray] w fun e w' =>
      e = .returned (.agg (.int .i64 S.target :: opens S cs).toArray) ∧ (∃ q, Cl w' g { S with number := S.number + 1, opened := some (opens S cs) } q) ∧ Touch [g] w w' := by
  have hlt := h.lt
  obtain ⟨c0, c1, c2, c3, c4, f0, f1, f2, f3, f4⟩ := h.cells
  obtain ⟨i, m, T, n, o⟩ := S
  have n0 := h.ok.number.1
  dsimp only at c0 c1 c2 c3 c4 hn n0 ⊢
  have HC := hide h
  clear h
  go_enter Try.func47, Try.ntmps47
  go_wp2_with fail
  have key : ∀ cs' : List Value, (fun W => W.cell? ⟨g, 0, none⟩ = some (.int .i64 i) ∧ W.cell? ⟨g, 3, none⟩ = some (.int .i64 (n + 1))) (((w.setCell ⟨g, 3, none⟩ (Value.int .i64 (n + 1))).alloc (Obj.cells cs'.toArray 41)).alloc (Obj.cells (zi :: zmsg).toArray 59)).drew := fun cs' => ⟨(World.cell?_alloc_lt _ _ _ (by simp only [World.size_alloc, Go.World.size_setCell]; exact Nat.lt_succ_of_lt hlt)).trans ((World.cell?_alloc_lt _ _ _ (by simp only [Go.World.size_setCell]; exact hlt)).trans (((HC.out.blk.put 3 _).cell 0))), (World.cell?_alloc_lt _ _ _ (by simp only [World.size_alloc, Go.World.size_setCell]; exact Nat.lt_succ_of_lt hlt)).trans ((World.cell?_alloc_lt _ _ _ (by simp only [Go.World.size_setCell]; exact hlt)).trans (((HC.out.blk.put 3 _).cell 3)))⟩
  refine wp_region_held_drew (S := fun W => W.cell? ⟨g, 0, none⟩ = some (.int .i64 i) ∧ W.cell? ⟨g, 3, none⟩ = some (.int .i64 (n + 1))) (by kernel_rfl) (key cs) (fun hS0 => ?_)
  refine wpAnyH_take (i := 0) (v := ?vb0) rfl (by kernel_rfl) (by kernel_rfl) (by kernel_rfl) (fun _ _ _ h => h) (Or.inl ⟨by rfl, ?hyb0⟩) (by assumption) ?restb0
  case hyb0 => (intro w hSw; (try dsimp only at hSw); go_simp; first | done | (with_reducible rfl))
  try simp only [Act.put, List.getElem_toArray, List.getElem_cons_zero, List.getElem_cons_succ, List.setIfInBounds_toArray, List.set_cons_zero, List.set_cons_succ]
  refine wpAnyH_take (i := 1) (v := ?vb1) rfl (by kernel_rfl) (by kernel_rfl) (by kernel_rfl) (fun _ _ _ h => h) (Or.inl ⟨by rfl, ?hyb1⟩) (by assumption) ?restb1
  case hyb1 => (intro w hSw; (try dsimp only at hSw); go_simp; first | done | (with_reducible rfl))
  try simp only [Act.put, List.getElem_toArray, List.getElem_cons_zero, List.getElem_cons_succ, List.setIfInBounds_toArray, List.set_cons_zero, List.set_cons_succ]
  refine wpAnyH_take (i := 2) (v := ?vb2) rfl (by kernel_rfl) (by kernel_rfl) (by kernel_rfl) (fun _ _ _ h => h) (Or.inl ⟨by rfl, ?hyb2⟩) (by assumption) ?restb2
  case hyb2 => (intro w hSw; (try dsimp only at hSw); go_simp; first | done | (with_reducible rfl))
  try simp only [Act.put, List.getElem_toArray, List.getElem_cons_zero, List.getElem_cons_succ, List.setIfInBounds_toArray, List.set_cons_zero, List.set_cons_succ]
  refine wpAnyH_take (i := 3) (v := ?vb3) rfl (by kernel_rfl) (by kernel_rfl) (by kernel_rfl) (fun _ _ _ h => h) (Or.inl ⟨by rfl, ?hyb3⟩) (by assumption) ?restb3
  case hyb3 => (intro w hSw; (try dsimp only at hSw); go_simp; first | done | (with_reducible rfl))
  try simp only [Act.put, List.getElem_toArray, List.getElem_cons_zero, List.getElem_cons_succ, List.setIfInBounds_toArray, List.set_cons_zero, List.set_cons_succ]
  refine wpAnyH_take (i := 4) (v := ?vb4) rfl (by kernel_rfl) (by kernel_rfl) (by kernel_rfl) (fun _ _ _ h => h) (Or.inl ⟨by rfl, ?hyb4⟩) (by assumption) ?restb4
  case hyb4 => (intro w hSw; (try dsimp only at hSw); go_simp; first | done | (with_reducible rfl))
  try simp only [Act.put, List.getElem_toArray, List.getElem_cons_zero, List.getElem_cons_succ, List.setIfInBounds_toArray, List.set_cons_zero, List.set_cons_succ]
  refine wpAnyH_take (i := 5) (v := ?vb5) rfl (by kernel_rfl) (by kernel_rfl) (by kernel_rfl) (fun _ _ _ h => h) (Or.inl ⟨by rfl, ?hyb5⟩) (by assumption) ?restb5
  case hyb5 => (intro w hSw; (try dsimp only at hSw); go_simp; first | done | (with_reducible rfl))
  try simp only [Act.put, List.getElem_toArray, List.getElem_cons_zero, List.getElem_cons_succ, List.setIfInBounds_toArray, List.set_cons_zero, List.set_cons_succ]
  refine wpAnyH_take (i := 6) (v := ?vb6) rfl (by kernel_rfl) (by kernel_rfl) (by kernel_rfl) (fun _ _ _ h => h) (Or.inl ⟨by rfl, ?hyb6⟩) (by assumption) ?restb6
  case hyb6 => (intro w hSw; (try dsimp only at hSw); go_simp; first | done | (with_reducible rfl))
  try simp only [Act.put, List.getElem_toArray, List.getElem_cons_zero, List.getElem_cons_succ, List.setIfInBounds_toArray, List.set_cons_zero, List.set_cons_succ]
  refine wpAnyH_take (i := 7) (v := ?vb7) rfl (by kernel_rfl) (by kernel_rfl) (by kernel_rfl) (fun _ _ _ h => h) (Or.inl ⟨by rfl, ?hyb7⟩) (by assumption) ?restb7
  case hyb7 => (intro w hSw; (try dsimp only at hSw); go_simp; first | done | (with_reducible rfl))
  try simp only [Act.put, List.getElem_toArray, List.getElem_cons_zero, List.getElem_cons_succ, List.setIfInBounds_toArray, List.set_cons_zero, List.set_cons_succ]
  refine wpAnyH_take (i := 8) (v := ?vb8) rfl (by kernel_rfl) (by kernel_rfl) (by kernel_rfl) (fun _ _ _ h => h) (Or.inl ⟨by rfl, ?hyb8⟩) (by assumption) ?restb8
  case hyb8 => (intro w hSw; (try dsimp only at hSw); go_simp; first | done | (with_reducible rfl))
  try simp only [Act.put, List.getElem_toArray, List.getElem_cons_zero, List.getElem_cons_succ, List.setIfInBounds_toArray, List.set_cons_zero, List.set_cons_succ]
  refine wpAnyH_ready (rs := [9]) (by kernel_rfl) (by simp) ?_
  refine AllReadyH.cons rfl (fun K hK => ?_) AllReadyH.nil
  go_simp
  refine hK.out _ _ (key _) (fun hS9 => ?_)
  clear hK K
  try simp only [Act.put, List.getElem_toArray, List.getElem_cons_zero, List.getElem_cons_succ, List.setIfInBounds_toArray, List.set_cons_zero, List.set_cons_succ]
  refine wpAnyH_take (i := 10) (v := ?vb10) rfl (by kernel_rfl) (by kernel_rfl) (by kernel_rfl) (fun _ _ _ h => h) (Or.inl ⟨by rfl, ?hyb10⟩) (by assumption) ?restb10
  case hyb10 => (intro w hSw; (try dsimp only at hSw); go_simp; first | done | (with_reducible rfl))
  try simp only [Act.put, List.getElem_toArray, List.getElem_cons_zero, List.getElem_cons_succ, List.setIfInBounds_toArray, List.set_cons_zero, List.set_cons_succ]
  refine wpAnyH_ready (rs := [11]) (by kernel_rfl) (by simp) ?_
  refine AllReadyH.cons rfl (fun K hK => ?_) AllReadyH.nil
  go_simp
  refine hK.out _ _ (key _) (fun hS11 => ?_)
  clear hK K
  try simp only [Act.put, List.getElem_toArray, List.getElem_cons_zero, List.getElem_cons_succ, List.setIfInBounds_toArray, List.set_cons_zero, List.set_cons_succ]
  refine wpAnyH_done (by kernel_rfl) ?_ _
  clear key
  go_wp2_with fail
  have hO : (opens ⟨i, m, T, n, o⟩ cs).length = 47 := by simp [opens, hl]
  have hOne : (opens ⟨i, m, T, n, o⟩ cs).toArray.all (·.oneCell') = true := one_opens hone
  have eO : (cs.set 2 (Value.int IntKind.i64 i)).set 3 (Value.int IntKind.i64 (n + 1)) = opens ⟨i, m, T, n, o⟩ cs := rfl
  rw [eO]
  obtain ⟨os, hcs⟩ : ∃ os, opens ⟨i, m, T, n, o⟩ cs = os := ⟨_, rfl⟩
  have hcs' := hcs
  rw [hcs] at hO hOne ⊢
  have HCS := hide hcs'
  clear hcs'
  have W0 := wend w g i m T n o p os HC.out
  have HW0 := hide W0
  refine (send_raw g w.heap.size T os _ ?q1 W0.2.1 W0.2.2.1 W0.2.2.2.1 hO hOne).mono ?_
  case q1 => simp; omega
  clear W0
  rintro e w1 ⟨rfl, hbw⟩
  have HB := hide hbw
  have HO1 := hide (HW0.out.2.2.2.2.1.step hbw)
  have HM1 := hide (HW0.out.2.2.2.1.step hbw)
  have HC1 := hide (HW0.out.1.step hbw)
  have HT1 := hide (HW0.out.2.2.2.2.2.step hbw)
  clear hbw hcs eO HW0 HB
  go_wp2_with (first
    | (refine wpList_store_blk rfl 59 (.tmp 4) (.tmp 26) rfl (w.heap.size + 1) 59 (zi :: zmsg).toArray (.int .i64 T :: os).toArray rfl rfl HO1.out (by simp [hO, zmsg]) (size_out hO) (one_out hOne) ?_; intro W2 hx2 ht2 hs2; have HX2 := hide hx2; have HT2 := hide ht2; clear hx2 ht2 hs2))
  refine bodyPost_ret (results_cell_row rfl _ _ (w.heap.size + 1) 59 _ (0, 0) _ rfl HX2.out Try.underlying59 rfl (size_out hO)) rfl ?_
  have HQ := cl_opened HC.out.ok hn hO hOne (HC1.out.touch HT2.out (by simp; omega)) (HM1.out.touch HT2.out (by simp)) (by omega)
  rw [show opens ⟨i, m, T, n, o⟩ cs = os from HCS.out]
  exact ⟨rfl, ⟨_, HQ⟩, HT1.out.next HT2.out (by simp)⟩
end Go.Proofs.Ytpbgelhjbfckcaa
/- Variables that hold a whole struct: one is laid, one is built; the world behind goes by a name. -/
namespace Go.Proofs.Ytpbgelhjbfckcaa
open Go.ChangeShapes Go.WideShapes Go.ChangeAt Go.RowKit
set_option linter.unusedVariables false

theorem wpList_build {P : Program} {w : World} {ops : Array Oper} {rest : List Oper} {o : Oper} {a : Act} {Q : Exit → Act → World → Prop} (hgd : o.guard = none) (t : TypeId) (parts : Array (Nat × Operand)) (ho : o.op = .build t parts)
    (vs : List (Nat × Value)) (he : (parts.map fun (i, x) => (i, a.eval x)).toList = vs) (cells : Array Value) (hc : P.built t vs = some cells)
    (h : wpList P ops Q rest (a.put o.dst (.agg cells)) w) : wpList P ops Q (o :: rest) a w := wpList_plain hgd fun K hK => by
  unfold Oper.wp execOp
  subst he
  simp only [ho, Sem.run_bind, run_build w t _ cells hc, Result.andThen_ok]
  exact hK _ _ h
theorem run_alloc {P : Program} {w : World} {t : TypeId} {cs : Array Value} (hi : (P.info? t).map (·.zero) = some (some (.agg cs))) : (Instr.alloc t true (.tuple #[])).run P w = .ok (.pointer (some ⟨w.heap.size, 0, none⟩)) (w.alloc (.cells cs t)) := by
  obtain ⟨i, hi1, hi2⟩ := Option.map_eq_some_iff.mp hi
  simp [Instr.alloc, zeroValue, typeInfo, hi1, hi2, Value.cells, newVar, newRow, go_sem]
theorem wpList_alloc_blk {P : Program} {w : World} {ops : Array Oper} {rest : List Oper} {o : Oper} {a : Act} {Q : Exit → Act → World → Prop} (hgd : o.guard = none) (t : TypeId) (ho : o.op = .alloc t)
    (cs : Array Value) (hi : (P.info? t).map (·.zero) = some (some (.agg cs)))
    (h : ∀ w', Blk w' w.heap.size t cs → Below w.heap.size w w' → w'.heap.size = w.heap.size + 1 → wpList P ops Q rest (a.put o.dst (.pointer (some ⟨w.heap.size, 0, none⟩))) w') : wpList P ops Q (o :: rest) a w := wpList_plain hgd fun K hK => by
  unfold Oper.wp execOp
  simp only [ho, Sem.run_bind, run_alloc hi, Result.andThen_ok]
  exact hK _ _ (h _ (Blk.new w t cs) ((Below.refl _ _).alloc (Nat.le_refl _) _) (by simp))
theorem run_box {P : Program} {w : World} {t : TypeId} {cs : Array Value} : (Instr.box t (.agg cs)).run P w = .ok (.pointer (some ⟨w.heap.size, 0, none⟩)) (w.alloc (.cells cs t)) := by
  simp [Instr.box, Value.cells, newVar, newRow, go_sem]
theorem wpList_box_blk {P : Program} {w : World} {ops : Array Oper} {rest : List Oper} {o : Oper} {a : Act} {Q : Exit → Act → World → Prop} (hgd : o.guard = none) (t : TypeId) (x : Operand) (ho : o.op = .box t x)
    (cs : Array Value) (hx : a.eval x = .agg cs)
    (h : ∀ w', Blk w' w.heap.size t cs → Below w.heap.size w w' → w'.heap.size = w.heap.size + 1 → wpList P ops Q rest (a.put o.dst (.pointer (some ⟨w.heap.size, 0, none⟩))) w') : wpList P ops Q (o :: rest) a w := wpList_plain hgd fun K hK => by
  unfold Oper.wp execOp
  simp only [ho, hx, Sem.run_bind, run_box, Result.andThen_ok]
  exact hK _ _ (h _ (Blk.new w t cs) ((Below.refl _ _).alloc (Nat.le_refl _) _) (by simp))
theorem have_tail1 {goal : Prop} {G I : World → Prop} (main : (∀ w, I w → G w) → goal) (tl : ∀ w, I w → G w) : goal := main tl
end Go.Proofs.Ytpbgelhjbfckcaa
/- Request, Call. -/
namespace Go.Proofs.Ytpbgelhjbfckcaa
open Go.ChangeShapes Go.WideShapes Go.ChangeAt Go.RowKit
set_option linter.unusedVariables false
set_option linter.unusedSimpArgs false

/-- The cells of a message of zeros with its endpoint. -/
@[irreducible] def zout : List Value := zi :: zmsg
theorem zout_def : zout = zi :: zmsg := by unfold zout; rfl
theorem zout_len : zout.length = 48 := by rw [zout_def]; rfl
theorem zout_info : (Try.prog.info? 59).map (·.zero) = some (some (.agg zout.toArray)) := by
  have h := congrArg (Option.map Prod.fst) info_out
  rw [Option.map_map] at h
  rw [zout_def]
  exact h
theorem zout_built : Try.prog.built 59 [] = some zout.toArray := by rw [zout_def]; exact built_out0
theorem zout_size : (Try.prog.info? 59).map (·.size) = some zout.toArray.size := by rw [zout_def]; exact size_out rfl
theorem zout_one : zout.toArray.all (·.oneCell') = true := by rw [zout_def]; exact one_out (by simp [zmsg, Value.oneCell'])
/-- A request that is open: kind, group, client, number, body, value. -/
def req (k g c n : Int) (b : ByteArray) (v : Int) : List Value := [.int .i64 k, .int .i64 g, .int .i64 c, .int .i64 n, zi, .string b, zi, zi, zi, zi, zi, zl, zl, zi, zi, zi, zi, .int .i64 v] ++ zmsg.drop 18
theorem req_len (k g c n : Int) (b : ByteArray) (v : Int) : (req k g c n b v).length = 47 := rfl
theorem req_one (k g c n : Int) (b : ByteArray) (v : Int) : (req k g c n b v).toArray.all (·.oneCell') = true := by simp [req, zmsg, Value.oneCell']
/-- What a call that asks leaves: the client, the message, the code. -/
structure AskV where
  st : CS
  out : List Value
  code : Int
def AskR (w : World) (g : Nat) (r : AskV) (e : Ending) (w' : World) : Prop :=
  e = .returned (.tuple #[.agg r.out.toArray, .int .i64 r.code]) ∧ (∃ q, Cl w' g r.st q) ∧ Touch [g] w w'
def opened (S : CS) (cs : List Value) : CS := { S with number := S.number + 1, opened := some (opens S cs) }
def cRequest (S : CS) (gr : Int) (b : ByteArray) : AskV :=
  if S.opened ≠ none then ⟨S, zout, 9⟩ else if gr < 0 ∨ 8 < gr then ⟨S, zout, 1⟩ else if 4096 < b.size then ⟨S, zout, 8⟩
  else ⟨opened S (req 1 gr 0 0 b 0), .int .i64 S.target :: opens S (req 1 gr 0 0 b 0), 0⟩
theorem ask_end {w W1 W2 : World} {g : Nat} {S : CS} {p : Value} {out : List Value} {c : Int} (h : Cl w g S p) (hb : Below w.heap.size w W1) (ht : Touch [w.heap.size] W1 W2) : AskR w g ⟨S, out, c⟩ (.returned (.tuple #[.agg out.toArray, .int .i64 c])) W2 := by
  have hb2 : Below w.heap.size w W2 := Below.touch hb ht (by simp) hb.size
  exact ⟨rfl, ⟨p, h.step hb2⟩, Touch.below hb2 _⟩
theorem ask_begun {w W1 W2 W3 : World} {g : Nat} {S : CS} {cs zs : List Value} (hg : g < w.heap.size) (hb : Below w.heap.size w W1) (hz : Blk W1 w.heap.size 59 zs.toArray) (ht : Touch [g] W1 W2) (hc : ∃ q, Cl W2 g { S with number := S.number + 1, opened := some (opens S cs) } q)
    (ht2 : Touch [w.heap.size] W2 W3) : AskR w g ⟨opened S cs, .int .i64 S.target :: opens S cs, 0⟩ (.returned (.tuple #[.agg (Value.int .i64 S.target :: opens S cs).toArray, .int .i64 0])) W3 := by
  obtain ⟨q, hq⟩ := hc
  refine ⟨rfl, ⟨q, hq.blk.touch ht2 (by simp; omega), hq.ok, hq.shut, fun cs' hcs' => ?_⟩, ?_⟩
  · obtain ⟨b, h1, h2, h3⟩ := hq.opened cs' hcs'
    refine ⟨b, h1, h2, h3.touch ht2 ?_⟩
    simp only [List.mem_singleton]
    rintro rfl
    have hz2 := hz.touch ht (by simp; omega)
    unfold Blk at hz2 h3
    rw [hz2] at h3
    injection h3 with h3
    injection h3 with h4 h5
    exact absurd h5 (by decide)
  · exact ((Touch.below hb [g]).next ht (by simp)).next ht2 (by simp)
theorem built_req (g : Int) (b : ByteArray) : Try.prog.built 41 [(0, .int .i64 1), (1, .int .i64 g), (5, .string b)] = some (req 1 g 0 0 b 0).toArray := by kernel_rfl
theorem built_cal (g v : Int) : Try.prog.built 41 [(0, .int .i64 9), (1, .int .i64 g), (11, .int .i64 v)] = some (req 9 g 0 0 ⟨#[]⟩ v).toArray := by kernel_rfl
def cCall (S : CS) (gr v : Int) : AskV :=
  if S.opened ≠ none then ⟨S, zout, 9⟩ else if gr < 1 ∨ 8 < gr then ⟨S, zout, 1⟩
  else ⟨opened S (req 9 gr 0 0 ⟨#[]⟩ v), .int .i64 S.target :: opens S (req 9 gr 0 0 ⟨#[]⟩ v), 0⟩
set_option maxRecDepth 100000 in
set_option maxHeartbeats 1000000 in
theorem request_c (g : Nat) (S : CS) (p : Value) (gr : Int) (b : ByteArray) (w : World) (h : Cl w g S p) (hn : S.number < 1000000) (hb : b.size ≤ maxLen) :
    Calls Try.prog 25 #[.pointer (some ⟨g, 0, none⟩), .int .i64 gr, .string b] w (AskR w g (cRequest S gr b)) := by
  have hlt := h.lt
  have hc4 := h.cells.2.2.2.2.1
  have HC := hide h
  unfold maxLen at hb
  by_cases ho : S.opened = none
  · have hp := h.shut ho
    subst hp
    unfold cRequest
    rw [if_neg (by simp [ho])]
    by_cases h1 : gr < 0
    · rw [if_pos (.inl h1)]
      clear h ho hb
      go_enter Try.func25, Try.ntmps25
      go_wp2_with (first
        | (refine wpList_alloc_blk rfl 59 rfl zout.toArray zout_info ?_; intro W1 hx1 hb1 hs1; have hk4 := (hb1.cell hlt).trans hc4; have HX1 := hide hx1; have HB1 := hide hb1; have HS1 := hide hs1; clear hx1 hb1 hs1)
        | (refine wpList_build rfl 59 #[] rfl [] (by simp) zout.toArray zout_built ?_)
        | (refine wpList_store_blk rfl 59 (.tmp 6) _ rfl w.heap.size 59 zout.toArray zout.toArray rfl rfl HX1.out rfl zout_size zout_one ?_; intro W2 hx2 ht2 hs2; have HX2 := hide hx2; have HT2 := hide ht2; clear hx2 ht2 hs2))
      refine bodyPost_ret (results_row_tmp Try.results25 _ _ w.heap.size 59 _ (0, 0) _ _ rfl rfl HX2.out Try.underlying59 rfl zout_size) rfl ?_
      exact ask_end HC.out HB1.out HT2.out
    have h1' : 0 ≤ gr := by omega
    by_cases h2 : 8 < gr
    · rw [if_pos (.inr h2)]
      clear h ho hb h1
      go_enter Try.func25, Try.ntmps25
      go_wp2_with (first
        | (refine wpList_alloc_blk rfl 59 rfl zout.toArray zout_info ?_; intro W1 hx1 hb1 hs1; have hk4 := (hb1.cell hlt).trans hc4; have HX1 := hide hx1; have HB1 := hide hb1; have HS1 := hide hs1; clear hx1 hb1 hs1)
        | (refine wpList_build rfl 59 #[] rfl [] (by simp) zout.toArray zout_built ?_)
        | (refine wpList_store_blk rfl 59 (.tmp 6) _ rfl w.heap.size 59 zout.toArray zout.toArray rfl rfl HX1.out rfl zout_size zout_one ?_; intro W2 hx2 ht2 hs2; have HX2 := hide hx2; have HT2 := hide ht2; clear hx2 ht2 hs2))
      refine bodyPost_ret (results_row_tmp Try.results25 _ _ w.heap.size 59 _ (0, 0) _ _ rfl rfl HX2.out Try.underlying59 rfl zout_size) rfl ?_
      exact ask_end HC.out HB1.out HT2.out
    have h2' : gr ≤ 8 := by omega
    rw [if_neg (by omega)]
    by_cases h3 : 4096 < b.size
    · rw [if_pos h3]
      have h3' : 4096 < (b.size : Int) := by omega
      clear h ho h1 h2 h3
      go_enter Try.func25, Try.ntmps25
      go_wp2_with (first
        | (refine wpList_alloc_blk rfl 59 rfl zout.toArray zout_info ?_; intro W1 hx1 hb1 hs1; have hk4 := (hb1.cell hlt).trans hc4; have HX1 := hide hx1; have HB1 := hide hb1; have HS1 := hide hs1; clear hx1 hb1 hs1)
        | (refine wpList_build rfl 59 #[] rfl [] (by simp) zout.toArray zout_built ?_)
        | (refine wpList_store_blk rfl 59 (.tmp 6) _ rfl w.heap.size 59 zout.toArray zout.toArray rfl rfl HX1.out rfl zout_size zout_one ?_; intro W2 hx2 ht2 hs2; have HX2 := hide hx2; have HT2 := hide ht2; clear hx2 ht2 hs2))
      refine bodyPost_ret (results_row_tmp Try.results25 _ _ w.heap.size 59 _ (0, 0) _ _ rfl rfl HX2.out Try.underlying59 rfl zout_size) rfl ?_
      exact ask_end HC.out HB1.out HT2.out
    rw [if_neg h3]
    have h3' : (b.size : Int) ≤ 4096 := by omega
    have HBC := hide (fun (X : World) (k : Below w.heap.size w X) => begin_c g S (.pointer none) (req 1 gr 0 0 b 0) X (h.step k) (req_len _ _ _ _ _ _) (req_one _ _ _ _ _ _) hn)
    have HOL : Hid ((opens S (req 1 gr 0 0 b 0)).length = 47) := hide (by simp [opens, req_len])
    have HO1 : Hid ((opens S (req 1 gr 0 0 b 0)).toArray.all (·.oneCell') = true) := hide (one_opens (req_one _ _ _ _ _ _))
    clear h ho h1 h2 h3
    go_enter Try.func25, Try.ntmps25
    go_wp2_with (first
      | (refine wpList_alloc_blk rfl 59 rfl zout.toArray zout_info ?_; intro W1 hx1 hb1 hs1; have hk4 := (hb1.cell hlt).trans hc4; have HX1 := hide hx1; have HB1 := hide hb1; have HS1 := hide hs1; clear hx1 hb1 hs1)
      | (refine wpList_build rfl 59 #[] rfl [] (by simp) zout.toArray zout_built ?_)
      | (refine wpList_store_blk rfl 59 (.tmp 6) _ rfl w.heap.size 59 zout.toArray zout.toArray rfl rfl HX1.out rfl zout_size zout_one ?_; intro W2 hx2 ht2 hs2; have HX2 := hide hx2; have HT2 := hide ht2; clear hx2 ht2 hs2))
    refine (HBC.out W1 HB1.out).mono ?_
    rintro e w1 ⟨rfl, hcl, ht⟩
    have HCL := hide hcl
    have HT := hide ht
    have HXW := hide (HX1.out.touch ht (by simp; omega))
    have HON : Hid ((Value.int .i64 S.target :: opens S (req 1 gr 0 0 b 0)).length = 48) := hide (by rw [List.length_cons, HOL.out])
    have HOS : Hid ((Try.prog.info? 59).map (·.size) = some (Value.int .i64 S.target :: opens S (req 1 gr 0 0 b 0)).toArray.size) := hide (size_out HOL.out)
    have HOO : Hid ((Value.int .i64 S.target :: opens S (req 1 gr 0 0 b 0)).toArray.all (·.oneCell') = true) := hide (one_out HO1.out)
    have HEND := hide (fun (W3 : World) (ht2 : Touch [w.heap.size] w1 W3) => ask_begun hlt HB1.out HX1.out HT.out HCL.out ht2)
    clear hcl ht HBC HCL HOL HO1
    generalize (Value.int .i64 S.target :: opens S (req 1 gr 0 0 b 0)) = os at *
    go_wp2_with (first
      | (refine wpList_store_blk rfl 59 (.tmp 6) _ rfl w.heap.size 59 zout.toArray os.toArray rfl rfl HXW.out (by rw [List.size_toArray, List.size_toArray, HON.out, zout_len]) HOS.out HOO.out ?_; intro W2 hx2 ht2 hs2; have HX2 := hide hx2; have HT2 := hide ht2; clear hx2 ht2 hs2))
    refine bodyPost_ret (results_row_tmp Try.results25 _ _ w.heap.size 59 _ (0, 0) _ _ rfl rfl HX2.out Try.underlying59 rfl HOS.out) rfl ?_
    exact HEND.out _ HT2.out
  · have hs : ∃ cs, S.opened = some cs := by cases hq : S.opened with | none => exact absurd hq ho | some cs => exact ⟨cs, rfl⟩
    obtain ⟨cs, hs⟩ := hs
    obtain ⟨b0, hne, rfl, _⟩ := h.opened cs hs
    unfold cRequest
    rw [if_pos ho]
    clear h ho hs hb
    go_enter Try.func25, Try.ntmps25
    go_wp2_with (first
      | (refine wpList_alloc_blk rfl 59 rfl zout.toArray zout_info ?_; intro W1 hx1 hb1 hs1; have hk4 := (hb1.cell hlt).trans hc4; have HX1 := hide hx1; have HB1 := hide hb1; have HS1 := hide hs1; clear hx1 hb1 hs1)
      | (refine wpList_build rfl 59 #[] rfl [] (by simp) zout.toArray zout_built ?_)
      | (refine wpList_store_blk rfl 59 (.tmp 6) _ rfl w.heap.size 59 zout.toArray zout.toArray rfl rfl HX1.out rfl zout_size zout_one ?_; intro W2 hx2 ht2 hs2; have HX2 := hide hx2; have HT2 := hide ht2; clear hx2 ht2 hs2))
    refine bodyPost_ret (results_row_tmp Try.results25 _ _ w.heap.size 59 _ (0, 0) _ _ rfl rfl HX2.out Try.underlying59 rfl zout_size) rfl ?_
    exact ask_end HC.out HB1.out HT2.out
set_option maxRecDepth 100000 in
set_option maxHeartbeats 1000000 in
theorem call_c (g : Nat) (S : CS) (p : Value) (gr v : Int) (w : World) (h : Cl w g S p) (hn : S.number < 1000000) :
    Calls Try.prog 37 #[.pointer (some ⟨g, 0, none⟩), .int .i64 gr, .int .i64 v] w (AskR w g (cCall S gr v)) := by
  have hlt := h.lt
  have hc4 := h.cells.2.2.2.2.1
  have HC := hide h
  by_cases ho : S.opened = none
  · have hp := h.shut ho
    subst hp
    unfold cCall
    rw [if_neg (by simp [ho])]
    by_cases h1 : gr < 1
    · rw [if_pos (.inl h1)]
      clear h ho
      go_enter Try.func37, Try.ntmps37
      go_wp2_with (first
        | (refine wpList_alloc_blk rfl 59 rfl zout.toArray zout_info ?_; intro W1 hx1 hb1 hs1; have hk4 := (hb1.cell hlt).trans hc4; have HX1 := hide hx1; have HB1 := hide hb1; have HS1 := hide hs1; clear hx1 hb1 hs1)
        | (refine wpList_build rfl 59 #[] rfl [] (by simp) zout.toArray zout_built ?_)
        | (refine wpList_store_blk rfl 59 (.tmp 6) _ rfl w.heap.size 59 zout.toArray zout.toArray rfl rfl HX1.out rfl zout_size zout_one ?_; intro W2 hx2 ht2 hs2; have HX2 := hide hx2; have HT2 := hide ht2; clear hx2 ht2 hs2))
      refine bodyPost_ret (results_row_tmp Try.results37 _ _ w.heap.size 59 _ (0, 0) _ _ rfl rfl HX2.out Try.underlying59 rfl zout_size) rfl ?_
      exact ask_end HC.out HB1.out HT2.out
    have h1' : 1 ≤ gr := by omega
    by_cases h2 : 8 < gr
    · rw [if_pos (.inr h2)]
      clear h ho h1
      go_enter Try.func37, Try.ntmps37
      go_wp2_with (first
        | (refine wpList_alloc_blk rfl 59 rfl zout.toArray zout_info ?_; intro W1 hx1 hb1 hs1; have hk4 := (hb1.cell hlt).trans hc4; have HX1 := hide hx1; have HB1 := hide hb1; have HS1 := hide hs1; clear hx1 hb1 hs1)
        | (refine wpList_build rfl 59 #[] rfl [] (by simp) zout.toArray zout_built ?_)
        | (refine wpList_store_blk rfl 59 (.tmp 6) _ rfl w.heap.size 59 zout.toArray zout.toArray rfl rfl HX1.out rfl zout_size zout_one ?_; intro W2 hx2 ht2 hs2; have HX2 := hide hx2; have HT2 := hide ht2; clear hx2 ht2 hs2))
      refine bodyPost_ret (results_row_tmp Try.results37 _ _ w.heap.size 59 _ (0, 0) _ _ rfl rfl HX2.out Try.underlying59 rfl zout_size) rfl ?_
      exact ask_end HC.out HB1.out HT2.out
    have h2' : gr ≤ 8 := by omega
    rw [if_neg (by omega)]
    have HBC := hide (fun (X : World) (k : Below w.heap.size w X) => begin_c g S (.pointer none) (req 9 gr 0 0 ⟨#[]⟩ v) X (h.step k) (req_len _ _ _ _ _ _) (req_one _ _ _ _ _ _) hn)
    have HOL : Hid ((opens S (req 9 gr 0 0 ⟨#[]⟩ v)).length = 47) := hide (by simp [opens, req_len])
    have HO1 : Hid ((opens S (req 9 gr 0 0 ⟨#[]⟩ v)).toArray.all (·.oneCell') = true) := hide (one_opens (req_one _ _ _ _ _ _))
    clear h ho h1 h2
    go_enter Try.func37, Try.ntmps37
    go_wp2_with (first
      | (refine wpList_alloc_blk rfl 59 rfl zout.toArray zout_info ?_; intro W1 hx1 hb1 hs1; have hk4 := (hb1.cell hlt).trans hc4; have HX1 := hide hx1; have HB1 := hide hb1; have HS1 := hide hs1; clear hx1 hb1 hs1)
      | (refine wpList_build rfl 59 #[] rfl [] (by simp) zout.toArray zout_built ?_)
      | (refine wpList_store_blk rfl 59 (.tmp 6) _ rfl w.heap.size 59 zout.toArray zout.toArray rfl rfl HX1.out rfl zout_size zout_one ?_; intro W2 hx2 ht2 hs2; have HX2 := hide hx2; have HT2 := hide ht2; clear hx2 ht2 hs2))
    refine (HBC.out W1 HB1.out).mono ?_
    rintro e w1 ⟨rfl, hcl, ht⟩
    have HCL := hide hcl
    have HT := hide ht
    have HXW := hide (HX1.out.touch ht (by simp; omega))
    have HON : Hid ((Value.int .i64 S.target :: opens S (req 9 gr 0 0 ⟨#[]⟩ v)).length = 48) := hide (by rw [List.length_cons, HOL.out])
    have HOS : Hid ((Try.prog.info? 59).map (·.size) = some (Value.int .i64 S.target :: opens S (req 9 gr 0 0 ⟨#[]⟩ v)).toArray.size) := hide (size_out HOL.out)
    have HOO : Hid ((Value.int .i64 S.target :: opens S (req 9 gr 0 0 ⟨#[]⟩ v)).toArray.all (·.oneCell') = true) := hide (one_out HO1.out)
    have HEND := hide (fun (W3 : World) (ht2 : Touch [w.heap.size] w1 W3) => ask_begun hlt HB1.out HX1.out HT.out HCL.out ht2)
    clear hcl ht HBC HCL HOL HO1
    generalize (Value.int .i64 S.target :: opens S (req 9 gr 0 0 ⟨#[]⟩ v)) = os at *
    go_wp2_with (first
      | (refine wpList_store_blk rfl 59 (.tmp 6) _ rfl w.heap.size 59 zout.toArray os.toArray rfl rfl HXW.out (by rw [List.size_toArray, List.size_toArray, HON.out, zout_len]) HOS.out HOO.out ?_; intro W2 hx2 ht2 hs2; have HX2 := hide hx2; have HT2 := hide ht2; clear hx2 ht2 hs2))
    refine bodyPost_ret (results_row_tmp Try.results37 _ _ w.heap.size 59 _ (0, 0) _ _ rfl rfl HX2.out Try.underlying59 rfl HOS.out) rfl ?_
    exact HEND.out _ HT2.out
  · have hs : ∃ cs, S.opened = some cs := by cases hq : S.opened with | none => exact absurd hq ho | some cs => exact ⟨cs, rfl⟩
    obtain ⟨cs, hs⟩ := hs
    obtain ⟨b0, hne, rfl, _⟩ := h.opened cs hs
    unfold cCall
    rw [if_pos ho]
    clear h ho hs
    go_enter Try.func37, Try.ntmps37
    go_wp2_with (first
      | (refine wpList_alloc_blk rfl 59 rfl zout.toArray zout_info ?_; intro W1 hx1 hb1 hs1; have hk4 := (hb1.cell hlt).trans hc4; have HX1 := hide hx1; have HB1 := hide hb1; have HS1 := hide hs1; clear hx1 hb1 hs1)
      | (refine wpList_build rfl 59 #[] rfl [] (by simp) zout.toArray zout_built ?_)
      | (refine wpList_store_blk rfl 59 (.tmp 6) _ rfl w.heap.size 59 zout.toArray zout.toArray rfl rfl HX1.out rfl zout_size zout_one ?_; intro W2 hx2 ht2 hs2; have HX2 := hide hx2; have HT2 := hide ht2; clear hx2 ht2 hs2))
    refine bodyPost_ret (results_row_tmp Try.results37 _ _ w.heap.size 59 _ (0, 0) _ _ rfl rfl HX2.out Try.underlying59 rfl zout_size) rfl ?_
    exact ask_end HC.out HB1.out HT2.out
end Go.Proofs.Ytpbgelhjbfckcaa
/- Retry, Open. -/
namespace Go.Proofs.Ytpbgelhjbfckcaa
open Go.ChangeShapes Go.WideShapes Go.ChangeAt Go.RowKit
set_option linter.unusedVariables false
set_option linter.unusedSimpArgs false

structure RetV where
  st : CS
  out : List Value
  is : Bool
def RetR (w : World) (g : Nat) (r : RetV) (e : Ending) (w' : World) : Prop :=
  e = .returned (.tuple #[.agg r.out.toArray, .bool r.is]) ∧ (∃ q, Cl w' g r.st q) ∧ Touch [g] w w'
def turned (S : CS) : CS := { S with target := S.target % S.machines + 1 }
def cRetry (S : CS) : RetV := match S.opened with
  | none => ⟨S, zout, false⟩
  | some cs => ⟨turned S, .int .i64 (turned S).target :: cs, true⟩
theorem ret_end {w W1 W2 : World} {g : Nat} {S : CS} {p : Value} {out : List Value} {c : Bool} (h : Cl w g S p) (hb : Below w.heap.size w W1) (ht : Touch [w.heap.size] W1 W2) : RetR w g ⟨S, out, c⟩ (.returned (.tuple #[.agg out.toArray, .bool c])) W2 := by
  have hb2 : Below w.heap.size w W2 := Below.touch hb ht (by simp) hb.size
  exact ⟨rfl, ⟨p, h.step hb2⟩, Touch.below hb2 _⟩
theorem turned_ok {S : CS} (h : S.Ok) : (turned S).Ok := by
  have h1 := h.machines
  have h2 := Int.emod_nonneg S.target (show S.machines ≠ 0 by omega)
  have h3 := Int.emod_lt_of_pos S.target (show 0 < S.machines by omega)
  exact ⟨h.id, h.machines, ⟨by show 1 ≤ S.target % S.machines + 1; omega, by show S.target % S.machines + 1 ≤ S.machines; omega⟩, h.number, h.opened⟩
theorem Cl.drew {w : World} {g : Nat} {S : CS} {p : Value} (h : Cl w g S p) : Cl w.drew g S p := ⟨h.blk.drew, h.ok, h.shut, fun cs hc => by obtain ⟨b, h1, h2, h3⟩ := h.opened cs hc; exact ⟨b, h1, h2, h3.drew⟩⟩
theorem Cl.far_of {w w' : World} {g : Nat} {S : CS} {p : Value} {L : List Nat} (h : Cl w g S p) (k : Touch L w w') (hg : g ∉ L) (hp : ∀ b, p = .pointer (some ⟨b, 0, none⟩) → b ∉ L) : Cl w' g S p :=
  ⟨h.blk.touch k hg, h.ok, h.shut, fun cs hc => by obtain ⟨b, h1, h2, h3⟩ := h.opened cs hc; exact ⟨b, h1, h2, h3.touch k (hp b h2)⟩⟩
theorem cl_turned {w : World} {g : Nat} {S : CS} {p : Value} (h : Cl w g S p) {t : Int} (ht : t = S.target % S.machines + 1) : Cl (w.setCell ⟨g, 2, none⟩ (.int .i64 t)) g (turned S) p := by
  subst ht
  exact ⟨h.blk.put 2 _, turned_ok h.ok, h.shut, fun cs hc => by obtain ⟨b, h1, h2, h3⟩ := h.opened cs hc; exact ⟨b, h1, h2, h3.far h1 _⟩⟩

set_option maxRecDepth 100000 in
set_option maxHeartbeats 1000000 in
theorem retry_c (g : Nat) (S : CS) (p : Value) (w : World) (h : Cl w g S p) :
    Calls Try.prog 18 #[.pointer (some ⟨g, 0, none⟩)] w (RetR w g (cRetry S)) := by
  have hlt := h.lt
  have hc4 := h.cells.2.2.2.2.1
  have HC := hide h
  unfold cRetry
  cases ho : S.opened with
  | none =>
    have hp := h.shut ho
    subst hp
    clear h ho
    go_enter Try.func18, Try.ntmps18
    go_wp2_with (first
      | (refine wpList_alloc_blk rfl 59 rfl zout.toArray zout_info ?_; intro W1 hx1 hb1 hs1; have hk4 := (hb1.cell hlt).trans hc4; have HX1 := hide hx1; have HB1 := hide hb1; have HS1 := hide hs1; clear hx1 hb1 hs1)
      | (refine wpList_build rfl 59 #[] rfl [] (by simp) zout.toArray zout_built ?_)
      | (refine wpList_store_blk rfl 59 (.tmp 2) _ rfl w.heap.size 59 zout.toArray zout.toArray rfl rfl HX1.out rfl zout_size zout_one ?_; intro W2 hx2 ht2 hs2; have HX2 := hide hx2; have HT2 := hide ht2; clear hx2 ht2 hs2))
    refine bodyPost_ret (results_row_tmp Try.results18 _ _ w.heap.size 59 _ (0, 0) _ _ rfl rfl HX2.out Try.underlying59 rfl zout_size) rfl ?_
    exact ret_end HC.out HB1.out HT2.out
  | some cs =>
    obtain ⟨b, hbg, rfl, hbm⟩ := h.opened cs ho
    have hl := (h.ok.opened cs ho).1
    have hone := (h.ok.opened cs ho).2
    have c1 := h.cells.2.1
    have c2 := h.cells.2.2.1
    have f2 := h.cells.2.2.2.2.2.2.2.1
    have hm := h.ok.machines
    have hT := h.ok.target
    have HO := hide ho
    have e1 : S.target.tmod S.machines = S.target % S.machines := Int.tmod_eq_emod_of_nonneg (by omega)
    have r1 := Int.emod_nonneg S.target (show S.machines ≠ 0 by omega)
    have r2 := Int.emod_lt_of_pos S.target (show 0 < S.machines by omega)
    obtain ⟨r, hr⟩ : ∃ r, S.target % S.machines = r := ⟨_, rfl⟩
    rw [hr] at e1 r1 r2
    have HR := hide hr
    have hm0 : ¬ S.machines = 0 := by omega
    generalize hM : S.machines = M at *
    generalize hTT : S.target = T at *
    have HM := hide hM
    have HTT := hide hTT
    clear h ho hbm hM hTT hr
    go_enter Try.func18, Try.ntmps18
    go_wp2_with (first
      | (refine wpList_alloc_blk rfl 59 rfl zout.toArray zout_info ?_; intro W1 hx1 hb1 hs1; have hk4 := (hb1.cell hlt).trans hc4; have hk1 := (hb1.cell hlt).trans c1; have hk2 := (hb1.cell hlt).trans c2; have hf2 := (hb1.frozen hlt).trans f2; have HX1 := hide hx1; have HB1 := hide hb1; have HS1 := hide hs1; clear hx1 hb1 hs1))
    have hw1 : IntKind.i64.wrap (r + 1) = r + 1 := IntWalk.i64_in _ (by omega)
    have HCL := hide ((cl_turned (HC.out.step HB1.out) (t := r + 1) (by rw [← HR.out, HM.out, HTT.out])).drew)
    have hkM : (W1.setCell ⟨g, 2, none⟩ (.int .i64 (r + 1))).drew.cell? ⟨g, 1, none⟩ = some (.int .i64 M) := by
      have := HCL.out.cells.2.1
      rw [show (turned S).machines = M from HM.out] at this
      exact this
    refine wp_region_held_drew (S := fun W => W.cell? ⟨g, 1, none⟩ = some (.int .i64 M)) (by kernel_rfl) (hk1) (fun hS0 => ?_)
    refine wpAnyH_take (i := 0) (v := ?vr0) rfl (by kernel_rfl) (by kernel_rfl) (by kernel_rfl) (fun _ _ _ h => h) (Or.inl ⟨by rfl, ?hyr0⟩) (by assumption) ?restr0
    case hyr0 => (intro w hSw; (try dsimp only at hSw); go_simp; first | done | (with_reducible rfl))
    try simp only [Act.put, List.getElem_toArray, List.getElem_cons_zero, List.getElem_cons_succ, List.setIfInBounds_toArray, List.set_cons_zero, List.set_cons_succ]
    refine wpAnyH_take (i := 1) (v := ?vr1) rfl (by kernel_rfl) (by kernel_rfl) (by kernel_rfl) (fun _ _ _ h => h) (Or.inl ⟨by rfl, ?hyr1⟩) (by assumption) ?restr1
    case hyr1 => (intro w hSw; (try dsimp only at hSw); go_simp; first | done | (with_reducible rfl))
    try simp only [Act.put, List.getElem_toArray, List.getElem_cons_zero, List.getElem_cons_succ, List.setIfInBounds_toArray, List.set_cons_zero, List.set_cons_succ]
    refine wpAnyH_take (i := 2) (v := ?vr2) rfl (by kernel_rfl) (by kernel_rfl) (by kernel_rfl) (fun _ _ _ h => h) (Or.inl ⟨by rfl, ?hyr2⟩) (by assumption) ?restr2
    case hyr2 => (intro w hSw; (try dsimp only at hSw); go_simp; first | done | (with_reducible rfl))
    try simp only [Act.put, List.getElem_toArray, List.getElem_cons_zero, List.getElem_cons_succ, List.setIfInBounds_toArray, List.set_cons_zero, List.set_cons_succ]
    refine wpAnyH_take (i := 3) (v := ?vr3) rfl (by kernel_rfl) (by kernel_rfl) (by kernel_rfl) (fun _ _ _ h => h) (Or.inl ⟨by rfl, ?hyr3⟩) (by assumption) ?restr3
    case hyr3 => (intro w hSw; (try dsimp only at hSw); go_simp; first | done | (with_reducible rfl))
    try simp only [Act.put, List.getElem_toArray, List.getElem_cons_zero, List.getElem_cons_succ, List.setIfInBounds_toArray, List.set_cons_zero, List.set_cons_succ]
    refine wpAnyH_take (i := 5) (v := ?vr4) rfl (by kernel_rfl) (by kernel_rfl) (by kernel_rfl) (fun _ _ _ h => h) (Or.inl ⟨by rfl, ?hyr4⟩) (by assumption) ?restr4
    case hyr4 => (intro w hSw; (try dsimp only at hSw); go_simp; first | done | (with_reducible rfl))
    try simp only [Act.put, List.getElem_toArray, List.getElem_cons_zero, List.getElem_cons_succ, List.setIfInBounds_toArray, List.set_cons_zero, List.set_cons_succ]
    refine wpAnyH_take (i := 6) (v := ?vr5) rfl (by kernel_rfl) (by kernel_rfl) (by kernel_rfl) (fun _ _ _ h => h) (Or.inl ⟨by rfl, ?hyr5⟩) (by assumption) ?restr5
    case hyr5 => (intro w hSw; (try dsimp only at hSw); go_simp; first | done | (with_reducible rfl))
    try simp only [Act.put, List.getElem_toArray, List.getElem_cons_zero, List.getElem_cons_succ, List.setIfInBounds_toArray, List.set_cons_zero, List.set_cons_succ]
    refine wpAnyH_take (i := 7) (v := ?vr6) rfl (by kernel_rfl) (by kernel_rfl) (by kernel_rfl) (fun _ _ _ h => h) (Or.inl ⟨by rfl, ?hyr6⟩) (by assumption) ?restr6
    case hyr6 => (intro w hSw; (try dsimp only at hSw); go_simp; first | done | (with_reducible rfl))
    try simp only [Act.put, List.getElem_toArray, List.getElem_cons_zero, List.getElem_cons_succ, List.setIfInBounds_toArray, List.set_cons_zero, List.set_cons_succ]
    refine wpAnyH_take (i := 8) (v := ?vr7) rfl (by kernel_rfl) (by kernel_rfl) (by kernel_rfl) (fun _ _ _ h => h) (Or.inl ⟨by rfl, ?hyr7⟩) (by assumption) ?restr7
    case hyr7 => (intro w hSw; (try dsimp only at hSw); go_simp; first | done | (with_reducible rfl))
    try simp only [Act.put, List.getElem_toArray, List.getElem_cons_zero, List.getElem_cons_succ, List.setIfInBounds_toArray, List.set_cons_zero, List.set_cons_succ]
    refine wpAnyH_ready (rs := [4]) (by kernel_rfl) (by simp) ?_
    refine AllReadyH.cons rfl (fun K hK => ?_) AllReadyH.nil
    go_simp
    refine hK.out _ _ (hk1) (fun hS8 => ?_)
    clear hK K
    try simp only [Act.put, List.getElem_toArray, List.getElem_cons_zero, List.getElem_cons_succ, List.setIfInBounds_toArray, List.set_cons_zero, List.set_cons_succ]
    refine wpAnyH_take (i := 9) (v := ?vr9) rfl (by kernel_rfl) (by kernel_rfl) (by kernel_rfl) (fun _ _ _ h => h) (Or.inl ⟨by rfl, ?hyr9⟩) (by assumption) ?restr9
    case hyr9 => (intro w hSw; (try dsimp only at hSw); go_simp; first | done | (with_reducible rfl))
    try simp only [Act.put, List.getElem_toArray, List.getElem_cons_zero, List.getElem_cons_succ, List.setIfInBounds_toArray, List.set_cons_zero, List.set_cons_succ]
    refine wpAnyH_take (i := 10) (v := ?vr10) rfl (by kernel_rfl) (by kernel_rfl) (by kernel_rfl) (fun _ _ _ h => h) (Or.inl ⟨by rfl, ?hyr10⟩) (by assumption) ?restr10
    case hyr10 => (intro w hSw; (try dsimp only at hSw); go_simp; first | done | (with_reducible rfl))
    try simp only [Act.put, List.getElem_toArray, List.getElem_cons_zero, List.getElem_cons_succ, List.setIfInBounds_toArray, List.set_cons_zero, List.set_cons_succ]
    refine wpAnyH_take (i := 11) (v := ?vr11) rfl (by kernel_rfl) (by kernel_rfl) (by kernel_rfl) (fun _ _ _ h => h) (Or.inl ⟨by rfl, ?hyr11⟩) (by assumption) ?restr11
    case hyr11 => (intro w hSw; (try dsimp only at hSw); go_simp; first | done | (with_reducible rfl))
    try simp only [Act.put, List.getElem_toArray, List.getElem_cons_zero, List.getElem_cons_succ, List.setIfInBounds_toArray, List.set_cons_zero, List.set_cons_succ]
    refine wpAnyH_take (i := 12) (v := ?vr12) rfl (by kernel_rfl) (by kernel_rfl) (by kernel_rfl) (fun _ _ _ h => h) (Or.inl ⟨by rfl, ?hyr12⟩) (by assumption) ?restr12
    case hyr12 => (intro w hSw; (try dsimp only at hSw); go_simp; first | done | (with_reducible rfl))
    try simp only [Act.put, List.getElem_toArray, List.getElem_cons_zero, List.getElem_cons_succ, List.setIfInBounds_toArray, List.set_cons_zero, List.set_cons_succ]
    refine wpAnyH_ready (rs := [13]) (by kernel_rfl) (by simp) ?_
    refine AllReadyH.cons rfl (fun K hK => ?_) AllReadyH.nil
    go_simp
    refine hK.out _ _ (hkM) (fun hS13 => ?_)
    clear hK K
    try simp only [Act.put, List.getElem_toArray, List.getElem_cons_zero, List.getElem_cons_succ, List.setIfInBounds_toArray, List.set_cons_zero, List.set_cons_succ]
    refine wpAnyH_done (by kernel_rfl) ?_ _
    have HTU : Hid (r + 1 = (turned S).target) := hide (by show r + 1 = S.target % S.machines + 1; rw [HM.out, HTT.out, HR.out])
    have HTW : Hid (Touch [g] W1 (W1.setCell ⟨g, 2, none⟩ (.int .i64 (r + 1))).drew) := hide (((Touch.refl [g] W1).set (by simp) 2 _).drew)
    have HXW := hide (HX1.out.touch HTW.out (by simp; omega))
    obtain ⟨W2, hW2⟩ : ∃ W2, W2 = (W1.setCell ⟨g, 2, none⟩ (.int .i64 (r + 1))).drew := ⟨_, rfl⟩
    rw [← hW2] at HCL HTW HXW ⊢
    have HSND := hide (send_c g (turned S) (.pointer (some ⟨b, 0, none⟩)) cs W2 HCL.out HO.out)
    rw [← HTU.out] at HSND
    clear hW2 hkM hw1 hS8 hS13 hk1 hk2 hk4 hf2 hS0
    go_wp2_with fail
    refine HSND.out.mono ?_
    rintro e W3 ⟨rfl, hb3⟩
    have HB3 := hide hb3
    have HX3 := hide (HXW.out.step hb3)
    clear hb3 HSND
    go_wp2_with (first
      | (refine wpList_store_blk rfl 59 (.tmp 2) _ rfl w.heap.size 59 zout.toArray (.int .i64 (r + 1) :: cs).toArray rfl rfl HX3.out (by simp [hl, zout_len]) (size_out hl) (one_out hone) ?_; intro W4 hx4 ht4 hs4; have HX4 := hide hx4; have HT4 := hide ht4; clear hx4 ht4 hs4))
    refine bodyPost_ret (results_row_tmp Try.results18 _ _ w.heap.size 59 _ (0, 0) _ _ rfl rfl HX4.out Try.underlying59 rfl (size_out hl)) rfl ?_
    have hne : b ≠ w.heap.size := by
      obtain ⟨b', _, hp', hb'⟩ := HC.out.opened cs HO.out
      have := hb'.lt
      injection hp' with hp'
      injection hp' with hp'
      injection hp' with hp1
      omega
    rw [← HTU.out]
    refine ⟨rfl, ⟨.pointer (some ⟨b, 0, none⟩), (HCL.out.step HB3.out).far_of HT4.out (by simp; omega) (fun b' hb' => by injection hb' with hb'; injection hb' with hb'; injection hb' with hb'; simp; omega)⟩, ?_⟩
    exact (((Touch.below HB1.out [g]).trans HTW.out).step HB3.out).next HT4.out (by simp)

/-- What Open hands back. -/
def openOf (S : CS) : List Value × Bool := match S.opened with
  | none => (zmsg, false)
  | some cs => (cs, true)
end Go.Proofs.Ytpbgelhjbfckcaa
/- Open; answers. -/
namespace Go.Proofs.Ytpbgelhjbfckcaa
open Go.ChangeShapes Go.WideShapes Go.ChangeAt Go.RowKit
set_option linter.unusedVariables false
set_option linter.unusedSimpArgs false

@[irreducible] def zmsgI : List Value := zmsg
theorem zmsgI_def : zmsgI = zmsg := by unfold zmsgI; rfl
theorem zmsgI_len : zmsgI.length = 47 := by rw [zmsgI_def]; rfl
theorem zmsgI_info : (Try.prog.info? 41).map (·.zero) = some (some (.agg zmsgI.toArray)) := by
  have h := congrArg (Option.map Prod.fst) info_msg
  rw [Option.map_map] at h
  rw [zmsgI_def]
  exact h
theorem zmsgI_built : Try.prog.built 41 [] = some zmsgI.toArray := by rw [zmsgI_def]; exact built_zero
theorem zmsgI_one : zmsgI.toArray.all (·.oneCell') = true := by rw [zmsgI_def]; simp [zmsg, Value.oneCell']
def OpenR (w : World) (S : CS) (e : Ending) (w' : World) : Prop := e = .returned (.tuple #[.agg (openOf S).1.toArray, .bool (openOf S).2]) ∧ Below w.heap.size w w'

set_option maxRecDepth 100000 in
set_option maxHeartbeats 1000000 in
theorem open_c (g : Nat) (S : CS) (p : Value) (w : World) (h : Cl w g S p) :
    Calls Try.prog 13 #[.pointer (some ⟨g, 0, none⟩)] w (OpenR w S) := by
  have hlt := h.lt
  have hc4 := h.cells.2.2.2.2.1
  have HC := hide h
  unfold OpenR openOf
  cases ho : S.opened with
  | none =>
    have hp := h.shut ho
    subst hp
    clear h ho
    dsimp only
    rw [← zmsgI_def]
    go_enter Try.func13, Try.ntmps13
    go_wp2_with (first
      | (refine wpList_alloc_blk rfl 41 rfl zmsgI.toArray zmsgI_info ?_; intro W1 hx1 hb1 hs1; have hk4 := (hb1.cell hlt).trans hc4; have HX1 := hide hx1; have HB1 := hide hb1; have HS1 := hide hs1; clear hx1 hb1 hs1)
      | (refine wpList_build rfl 41 #[] rfl [] (by simp) zmsgI.toArray zmsgI_built ?_)
      | (refine wpList_store_blk rfl 41 (.tmp 2) _ rfl w.heap.size 41 zmsgI.toArray zmsgI.toArray rfl rfl HX1.out rfl (size_msg zmsgI_len) zmsgI_one ?_; intro W2 hx2 ht2 hs2; have HX2 := hide hx2; have HT2 := hide ht2; clear hx2 ht2 hs2))
    refine bodyPost_ret (results_row_tmp Try.results13 _ _ w.heap.size 41 _ (0, 0) _ _ rfl rfl HX2.out Try.underlying41 rfl (size_msg zmsgI_len)) rfl ?_
    exact ⟨rfl, Below.touch HB1.out HT2.out (by simp) HB1.out.size⟩
  | some cs =>
    obtain ⟨b, hbg, rfl, hbm⟩ := h.opened cs ho
    have hl := (h.ok.opened cs ho).1
    have hone := (h.ok.opened cs ho).2
    have HBM := hide hbm
    clear h ho hbm
    dsimp only
    go_enter Try.func13, Try.ntmps13
    go_wp2_with (first
      | (refine wpList_alloc_blk rfl 41 rfl zmsgI.toArray zmsgI_info ?_; intro W1 hx1 hb1 hs1; have hk4 := (hb1.cell hlt).trans hc4; have HX1 := hide hx1; have HB1 := hide hb1; have HS1 := hide hs1; have HB2 := hide (HBM.out.step hb1); clear hx1 hb1 hs1)
      | (refine wpList_load_blk rfl 41 (.tmp 14) rfl b 41 cs.toArray _ rfl HB2.out Try.underlying41 rfl (size_msg hl) ?_)
      | (refine wpList_store_blk rfl 41 (.tmp 2) _ rfl w.heap.size 41 zmsgI.toArray cs.toArray rfl rfl HX1.out (by simp [hl, zmsgI_len]) (size_msg hl) hone ?_; intro W2 hx2 ht2 hs2; have HX2 := hide hx2; have HT2 := hide ht2; clear hx2 ht2 hs2))
    refine bodyPost_ret (results_row_tmp Try.results13 _ _ w.heap.size 41 _ (0, 0) _ _ rfl rfl HX2.out Try.underlying41 rfl (size_msg hl)) rfl ?_
    exact ⟨rfl, Below.touch HB1.out HT2.out (by simp) HB1.out.size⟩
end Go.Proofs.Ytpbgelhjbfckcaa
/- The blocks that a call has laid: what lies in each, all apart, and what of the old blocks may have turned. -/
namespace Go.Proofs.Ytpbgelhjbfckcaa
open Go.ChangeShapes Go.WideShapes Go.ChangeAt Go.RowKit
set_option linter.unusedVariables false

/-- Since w0: the blocks of L hold just what L says, no two are one, all are new; of the old ones at most those of S have turned. -/
structure Own (w0 : World) (S : List Nat) (L : List (Nat × TypeId × List Value)) (W : World) : Prop where
  has : ∀ e ∈ L, Blk W e.1 e.2.1 e.2.2.toArray ∧ w0.heap.size ≤ e.1
  apart : (L.map (·.1)).Nodup
  touch : Touch S w0 W
  old : ∀ s ∈ S, s < w0.heap.size
section
variable {w0 W W' : World} {S : List Nat} {L : List (Nat × TypeId × List Value)}
theorem Own.nil (w0 : World) (S : List Nat) (h : ∀ s ∈ S, s < w0.heap.size) : Own w0 S [] w0 := ⟨by simp, by simp, Touch.refl _ _, h⟩
theorem Own.size (h : Own w0 S L W) : w0.heap.size ≤ W.heap.size := h.touch.size
theorem Own.blk (h : Own w0 S L W) (i : Nat) {b : Nat} {t : TypeId} {cs : List Value} (hi : L[i]? = some (b, t, cs)) : Blk W b t cs.toArray := (h.has _ (List.mem_of_getElem? hi)).1
theorem Own.new (h : Own w0 S L W) (i : Nat) {b : Nat} {t : TypeId} {cs : List Value} (hi : L[i]? = some (b, t, cs)) : w0.heap.size ≤ b := (h.has _ (List.mem_of_getElem? hi)).2
theorem Own.cells (h : Own w0 S L W) (i : Nat) {b : Nat} {t : TypeId} {cs : List Value} (hi : L[i]? = some (b, t, cs)) : ∀ j, W.cell? ⟨b, j, none⟩ = cs[j]? := fun j => by rw [(h.blk i hi).cell j, List.getElem?_toArray]
theorem Own.froz (h : Own w0 S L W) (i : Nat) {b : Nat} {t : TypeId} {cs : List Value} (hi : L[i]? = some (b, t, cs)) : ∀ j, W.frozen? ⟨b, j, none⟩ = false := fun j => (h.blk i hi).froz j
theorem Own.push (h : Own w0 S L W) {t : TypeId} {cs : List Value} (hx : Blk W' W.heap.size t cs.toArray) (hb : Below W.heap.size W W') : Own w0 S (L ++ [(W.heap.size, t, cs)]) W' := by
  refine ⟨fun e he => ?_, ?_, h.touch.step hb, h.old⟩
  · rcases List.mem_append.1 he with he | he
    · exact ⟨(h.has e he).1.step hb, (h.has e he).2⟩
    · simp only [List.mem_singleton] at he; subst he; exact ⟨hx, h.size⟩
  · rw [List.map_append, List.nodup_append]
    refine ⟨h.apart, by simp, ?_⟩
    intro a ha b hb' e
    simp only [List.map_cons, List.map_nil, List.mem_singleton] at hb'
    subst hb' e
    obtain ⟨e, he, e2⟩ := List.mem_map.1 ha
    have := (h.has e he).1.lt
    omega
theorem Own.put (h : Own w0 S L W) (i : Nat) {b : Nat} {t : TypeId} {cs new : List Value} (hi : L[i]? = some (b, t, cs)) (hx : Blk W' b t new.toArray) (ht : Touch [b] W W') : Own w0 S (L.set i (b, t, new)) W' := by
  have hm : (L.set i (b, t, new)).map (·.1) = L.map (·.1) := by
    rw [List.map_set]
    refine List.ext_getElem? fun j => ?_
    rw [List.getElem?_set]
    by_cases hj : i = j
    · subst hj
      have hl := (List.getElem?_eq_some_iff.1 hi).1
      rw [if_pos rfl, if_pos (by simpa using hl), List.getElem?_map, hi]; rfl
    · rw [if_neg hj]
  have hnew := h.new i hi
  refine ⟨fun e he => ?_, hm ▸ h.apart, h.touch.next ht (fun x hx' => by simp only [List.mem_singleton] at hx'; subst hx'; exact .inr hnew), h.old⟩
  obtain ⟨j, hj⟩ := List.getElem?_of_mem he
  rw [List.getElem?_set] at hj
  by_cases hij : i = j
  · subst hij
    have hl := (List.getElem?_eq_some_iff.1 hi).1
    rw [if_pos rfl, if_pos hl] at hj
    injection hj with hj
    subst hj
    exact ⟨hx, hnew⟩
  · rw [if_neg hij] at hj
    have hmem := List.mem_of_getElem? hj
    refine ⟨(h.has e hmem).1.touch ht ?_, (h.has e hmem).2⟩
    simp only [List.mem_singleton]
    intro e1
    have hnd := List.pairwise_iff_getElem.1 h.apart
    have hl1 := (List.getElem?_eq_some_iff.1 hi).1
    have hl2 := (List.getElem?_eq_some_iff.1 hj).1
    have q1 : (L.map (·.1))[i]'(by simpa using hl1) = b := by rw [List.getElem_map, (List.getElem?_eq_some_iff.1 hi).2]
    have q2 : (L.map (·.1))[j]'(by simpa using hl2) = b := by rw [List.getElem_map, (List.getElem?_eq_some_iff.1 hj).2]; exact e1
    rcases Nat.lt_or_gt_of_ne hij with h1 | h1
    · exact hnd i j (by simpa using hl1) (by simpa using hl2) h1 (q1.trans q2.symm)
    · exact hnd j i (by simpa using hl2) (by simpa using hl1) h1 (q2.trans q1.symm)
theorem Own.set (h : Own w0 S L W) (i : Nat) {b : Nat} {t : TypeId} {cs : List Value} (hi : L[i]? = some (b, t, cs)) (j : Nat) (v : Value) : Own w0 S (L.set i (b, t, cs.set j v)) (W.setCell ⟨b, j, none⟩ v) :=
  h.put i hi (by have := (h.blk i hi).put j v; rwa [List.setIfInBounds_toArray] at this) ((Touch.refl [b] W).set (by simp) j v)
theorem Own.drew (h : Own w0 S L W) : Own w0 S L W.drew := ⟨fun e he => ⟨(h.has e he).1.drew, (h.has e he).2⟩, h.apart, h.touch.drew, h.old⟩
theorem Own.step (h : Own w0 S L W) (hb : Below W.heap.size W W') : Own w0 S L W' := ⟨fun e he => ⟨(h.has e he).1.step hb, (h.has e he).2⟩, h.apart, h.touch.step hb, h.old⟩
theorem Own.call (h : Own w0 S L W) {T : List Nat} (ht : Touch T W W') (hT : ∀ s ∈ T, s ∈ S) : Own w0 S L W' :=
  ⟨fun e he => ⟨(h.has e he).1.touch ht (fun hm => by have := h.old _ (hT _ hm); have := (h.has e he).2; omega), (h.has e he).2⟩, h.apart, h.touch.next ht (fun t hm => .inl (hT t hm)), h.old⟩
theorem Own.below (h : Own w0 [] L W) : Below w0.heap.size w0 W := h.touch.to_below (by simp) (Nat.le_refl _)
theorem Own.alloc (h : Own w0 S L W) (o : Obj) : Own w0 S L (W.alloc o) := h.step ((Below.refl _ _).alloc (Nat.le_refl _) _)
end
/-- Cells into the middle of a block: the world behind goes by a name. -/
theorem wpList_store_part {P : Program} {w : World} {ops : Array Oper} {rest : List Oper} {op : Oper} {a : Act} {Q : Exit → Act → World → Prop} (hgd : op.guard = none) (ty : TypeId) (x y : Operand) (ho : op.op = .store ty x y)
    (g o : Nat) (t : TypeId) (old new : List Value) (hx : a.eval x = .pointer (some ⟨g, o, none⟩)) (hy : a.eval y = .agg new.toArray) (hb : Blk w g t old.toArray) (hs : o + new.length ≤ old.length)
    (hi : (P.info? ty).map (·.size) = some new.toArray.size) (h1 : new.toArray.all (·.oneCell') = true)
    (h : ∀ w', Blk w' g t (old.take o ++ new ++ old.drop (o + new.length)).toArray → Touch [g] w w' → w'.heap.size = w.heap.size → wpList P ops Q rest (a.put op.dst undef) w') : wpList P ops Q (op :: rest) a w := by
  have hth : w.there g o new.toArray.size := fun j hj => by
    simp only [List.size_toArray] at hj
    rw [hb.cell (o + j), hb.froz (o + j)]
    exact ⟨by rw [List.getElem?_toArray, List.getElem?_eq_getElem (by omega)]; rfl, rfl⟩
  have h2 := Blk.setCells new o w _ hb (by simpa using hs)
  exact wpList_store_mid hgd ty x y ho g o new.toArray hx hy hth hi h1 (h _ h2 (touch_setCells w g o _).1 (touch_setCells w g o _).2)
theorem Blk.range {w : World} {g : Nat} {t : TypeId} {pre cs : List Value} (h : Blk w g t (pre ++ cs).toArray) : w.rangeAt g pre.length cs := fun j v hv => by
  rw [h.cell (pre.length + j), List.getElem?_toArray, List.getElem?_append_right (by omega)]
  simpa using hv
end Go.Proofs.Ytpbgelhjbfckcaa
