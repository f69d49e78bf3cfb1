/- A client in memory: its four numbers and the open request; New, send. -/
import Derived.Test.YtpbgelhjbfckcaaV02
import Derived.Deep.MidRow
import Derived.Deep.AppendLies
import Derived.Test.YtpbgelhjbfckcaaV01
namespace Go.Proofs.Ytpbgelhjbfckcaa
set_option linter.unusedVariables false
set_option linter.unusedSimpArgs false
section
open Go.ChangeShapes Go.WideShapes Go.ChangeAt Go.RowKit
/-- The state of a client: the open request is a row of 47 cells. -/
structure CS where
 id : Int
 machines : Int
 target : Int
 number : Int
 opened : Option (List Value)
structure CS.Ok (S : CS) : Prop where
 id : 1 ≤ S.id ∧ S.id ≤ 8
 machines : 1 ≤ S.machines ∧ S.machines ≤ 16
 target : 1 ≤ S.target ∧ S.target ≤ S.machines
 number : 0 ≤ S.number ∧ S.number ≤ 1000000
 opened : ∀ cs, S.opened = some cs → cs.length = 47 ∧ cs.toArray.all (·.oneCell') = true
/-- Block g is the client S. -/
structure Cl (w : World) (g : Nat) (S : CS) (p : Value) : Prop where
 blk : Blk w g 74 #[.int .i64 S.id, .int .i64 S.machines, .int .i64 S.target, .int .i64 S.number, p]
 ok : S.Ok
 shut : S.opened = none → p = .pointer none
 opened : ∀ cs, S.opened = some cs → ∃ b, b ≠ g ∧ p = .pointer (some ⟨b, 0, none⟩) ∧ Blk w b 41 cs.toArray
theorem Cl.lt {w : World} {g : Nat} {S : CS} {p : Value} (h : Cl w g S p) : g < w.heap.size := h.blk.lt
theorem Cl.step {w w' : World} {g : Nat} {S : CS} {p : Value} (h : Cl w g S p) (hb : Below w.heap.size w w') : Cl w' g S p :=
 ⟨h.blk.step hb, h.ok, h.shut, fun cs hc => by obtain ⟨b, h1, h2, h3⟩ := h.opened cs hc; exact ⟨b, h1, h2, h3.step hb⟩⟩
theorem Cl.cells {w : World} {g : Nat} {S : CS} {p : Value} (h : Cl w g S p) :
 w.cell? ⟨g, 0, none⟩ = some (.int .i64 S.id) ∧ w.cell? ⟨g, 1, none⟩ = some (.int .i64 S.machines) ∧ w.cell? ⟨g, 2, none⟩ = some (.int .i64 S.target) ∧ w.cell? ⟨g, 3, none⟩ = some (.int .i64 S.number) ∧ w.cell? ⟨g, 4, none⟩ = some p ∧
 w.frozen? ⟨g, 0, none⟩ = false ∧ w.frozen? ⟨g, 1, none⟩ = false ∧ w.frozen? ⟨g, 2, none⟩ = false ∧ w.frozen? ⟨g, 3, none⟩ = false ∧ w.frozen? ⟨g, 4, none⟩ = false :=
 ⟨h.blk.cell 0, h.blk.cell 1, h.blk.cell 2, h.blk.cell 3, h.blk.cell 4, h.blk.froz 0, h.blk.froz 1, h.blk.froz 2, h.blk.froz 3, h.blk.froz 4⟩
def csNew (i n : Int) : CS := ⟨i, n, 1, 0, none⟩
theorem run_build_client (a b : Int) (w : World) : (Instr.build 74 #[(0, .int .i64 a), (1, .int .i64 b), (2, .int .i64 1)]).run Try.prog w = .ok (.agg #[.int .i64 a, .int .i64 b, .int .i64 1, zi, .pointer none]) w :=
 run_build w _ _ _ (built_client a b)
def NewCl (w : World) (i n : Int) (e : Ending) (w' : World) : Prop := e = .returned (.pointer (some ⟨w.heap.size, 0, none⟩)) ∧ Cl w' w.heap.size (csNew i n) (.pointer none) ∧ Below w.heap.size w w'
theorem new_c (i n : Int) (hi : 1 ≤ i ∧ i ≤ 8) (hn : 1 ≤ n ∧ n ≤ 16) (w : World) : Calls Try.prog 9 #[.int .i64 i, .int .i64 n] w (NewCl w i n) := by
 obtain ⟨i1, i2⟩ := hi
 obtain ⟨n1, n2⟩ := hn
 have hm := run_build_client i n
 go_enter Try.func9, Try.ntmps9
 go_wp2_with fail
 clear hm
 go_ret
 refine ⟨rfl, ⟨Blk.new _ _ _, ⟨⟨i1, i2⟩, ⟨n1, n2⟩, ⟨Int.le_refl _, n1⟩, ⟨Int.le_refl _, by show (0:Int) ≤ 1000000; decide⟩, by intro cs hc; cases hc⟩, fun _ => rfl, by intro cs hc; cases hc⟩, (Below.refl _ _).alloc (Nat.le_refl _) _⟩
theorem step_load_blk {P : Program} {w : World} {ops : Array Oper} {o : Oper} {a : Act} {K : Act → World → Prop} {Q : Exit → Act → World → Prop} {E : Prop} (hgd : o.guard = none) (ty : TypeId) (x : Operand) (ho : o.op = .load ty x)
 (g : Nat) (t : TypeId) (cs : Array Value) (d : TypeDesc) (hx : a.eval x = .pointer (some ⟨g, 0, none⟩)) (hb : Blk w g t cs)
 (hu : P.underlying ty = some d) (hd : (match d with | .struct _ | .array _ _ => true | _ => false) = true) (hi : (P.info? ty).map (·.size) = some cs.size)
 (h : K (a.put o.dst (.agg cs)) w) : if Region.wanted o (yielded ops a.tmps) = true then Oper.wp P o a w K Q else E := by
 have hw : Region.wanted o (yielded ops a.tmps) = true := by simp [Region.wanted, hgd]
 rw [if_pos hw]
 exact wp_load_row ty x ho g hx t cs (0, 0) d hb hu hd hi h
theorem step_build {P : Program} {w : World} {ops : Array Oper} {o : Oper} {a : Act} {K : Act → World → Prop} {Q : Exit → Act → World → Prop} {E : Prop} (hgd : o.guard = none) (t : TypeId) (parts : Array (Nat × Operand)) (ho : o.op = .build t parts)
 (vs : List (Nat × Value)) (he : (parts.map fun (i, x) => (i, a.eval x)).toList = vs) (cells : Array Value) (hc : P.built t vs = some cells)
 (h : K (a.put o.dst (.agg cells)) w) : if Region.wanted o (yielded ops a.tmps) = true then Oper.wp P o a w K Q else E := by
 have hw : Region.wanted o (yielded ops a.tmps) = true := by simp [Region.wanted, hgd]
 rw [if_pos hw]
 unfold Oper.wp execOp
 subst he
 simp only [ho, Sem.run_bind, run_build w t _ cells hc, Result.andThen_ok]
 exact h
end
section
open List renaming getElem_toArray → qa, getElem_cons_zero → qb, getElem_cons_succ → qc, setIfInBounds_toArray → qd, set_cons_zero → qe, set_cons_succ → qf
open Go.ChangeShapes Go.WideShapes Go.ChangeAt Go.RowKit
theorem size_msg {cs : List Value} (h : cs.length = 47) : (Try.prog.info? 41).map (·.size) = some cs.toArray.size := by
 rw [List.size_toArray, h]; kernel_rfl
theorem size_out {cs : List Value} {v : Value} (h : cs.length = 47) : (Try.prog.info? 59).map (·.size) = some (v :: cs).toArray.size := by
 rw [List.size_toArray, List.length_cons, h]; kernel_rfl
theorem one_out {cs : List Value} {T : Int} (h : cs.toArray.all (·.oneCell') = true) : (Value.int .i64 T :: cs).toArray.all (·.oneCell') = true := by
 simpa [Value.oneCell'] using h
/-- What send hands back. -/
def Sent (w : World) (T : Int) (cs : List Value) (e : Ending) (w' : World) : Prop := e = .returned (.agg (.int .i64 T :: cs).toArray) ∧ Below w.heap.size w w'
set_option maxRecDepth 100000 in
set_option maxHeartbeats 1000000 in
theorem send_raw (g b : Nat) (T : Int) (cs : List Value) (w : World) (hg : g < w.heap.size) (h1 : w.cell? ⟨g, 2, none⟩ = some (.int .i64 T)) (h2 : w.cell? ⟨g, 4, none⟩ = some (.pointer (some ⟨b, 0, none⟩))) (hb : Blk w b 41 cs.toArray)
 (hl : cs.length = 47) (hone : cs.toArray.all (·.oneCell') = true) : Calls Try.prog 28 #[.pointer (some ⟨g, 0, none⟩)] w (Sent w T cs) := by
 go_enter Try.func28, Try.ntmps28
 go_wp2_with fail
 have hout := (Blk.new w 59 (zi :: zmsg).toArray).drew
 have key : (fun W => W.cell? ⟨g, 2, none⟩ = some (.int .i64 T) ∧ W.cell? ⟨g, 4, none⟩ = some (.pointer (some ⟨b, 0, none⟩)) ∧ Blk W b 41 cs.toArray ∧ Below w.heap.size w W) (w.alloc (.cells (zi :: zmsg).toArray 59)).drew := ⟨(World.cell?_alloc_lt w _ _ hg).trans h1, (World.cell?_alloc_lt w _ _ hg).trans h2, (hb.alloc _).drew, ((Below.refl _ _).alloc (Nat.le_refl _) _).drew⟩
 refine wp_region_held_drew (S := fun W => W.cell? ⟨g, 2, none⟩ = some (.int .i64 T) ∧ W.cell? ⟨g, 4, none⟩ = some (.pointer (some ⟨b, 0, none⟩)) ∧ Blk W b 41 cs.toArray ∧ Below w.heap.size w W) (by kernel_rfl) (key) (fun hS0 => ?_)
 refine tk 0 ?_;refine tk 1 ?_;refine tk 2 ?_;refine tk 3 ?_;refine tk 4 ?_;refine tk 5 ?_;refine tk 6 ?_;refine tk 7 ?_;refine tk 8 ?_
 refine tr1 9 fun K hK => ?_
 refine step_load_blk rfl 41 (.tmp 11) rfl b 41 cs.toArray _ rfl key.2.2.1 Try.underlying41 rfl (size_msg hl) ?_
 refine hK.out _ _ (key) (fun hS9 => ?_)
 clear hK K
 try simp only [Act.put, qa, qb, qc, qd, qe, qf]
 refine tr1 10 fun K hK => ?_
 refine step_build rfl 59 #[(0, .tmp 6), (1, .tmp 12)] rfl [(0, .int .i64 T), (1, .agg cs.toArray)] (by first | (go_simp; done) | simp [Act.eval] | rfl) _ (built_out T cs hl) ?_
 refine hK.out _ _ (key) (fun hS10 => ?_)
 clear hK K
 try simp only [Act.put, qa, qb, qc, qd, qe, qf]
 refine tr1 11 fun K hK => ?_
 refine step_store_blk rfl 59 (.tmp 2) (.tmp 13) rfl w.heap.size 59 (zi :: zmsg).toArray (.int .i64 T :: cs).toArray rfl rfl hout (by simp [hl, zmsg]) (size_out hl) (one_out hone) ?_
 intro W hW kW sW
 have hbW := Below.touch key.2.2.2 kW (by simp) (by simp)
 have key2 : (fun W => W.cell? ⟨g, 2, none⟩ = some (.int .i64 T) ∧ W.cell? ⟨g, 4, none⟩ = some (.pointer (some ⟨b, 0, none⟩)) ∧ Blk W b 41 cs.toArray ∧ Below w.heap.size w W) W := ⟨(hbW.cell hg).trans h1, (hbW.cell hg).trans h2, hb.step hbW, hbW⟩
 refine hK.out _ _ (key2) (fun hS11 => ?_)
 clear hK K
 refine heldMono (S' := (fun W => (W.cell? ⟨g, 2, none⟩ = some (.int .i64 T) ∧ W.cell? ⟨g, 4, none⟩ = some (.pointer (some ⟨b, 0, none⟩)) ∧ Blk W b 41 cs.toArray ∧ Below w.heap.size w W) ∧ Blk W w.heap.size 59 (.int .i64 T :: cs).toArray)) (fun _ h => h.1) _ _ _ _ ?_
 have hT11 : (fun W => (W.cell? ⟨g, 2, none⟩ = some (.int .i64 T) ∧ W.cell? ⟨g, 4, none⟩ = some (.pointer (some ⟨b, 0, none⟩)) ∧ Blk W b 41 cs.toArray ∧ Below w.heap.size w W) ∧ Blk W w.heap.size 59 (.int .i64 T :: cs).toArray) _ := ⟨key2, hW⟩
 try simp only [Act.put, qa, qb, qc, qd, qe, qf]
 refine wpAnyH_done (by kernel_rfl) ?_ _
 have hf := hide hW;have hbf := hide hbW;clear hW hbW hout key key2 hT11 hS11 kW
 go_wp2_with fail
 refine bodyPost_ret (results_cell_row Try.results28 _ _ w.heap.size 59 _ (0, 0) _ rfl hf.out Try.underlying59 rfl (size_out hl)) rfl ?_
 exact ⟨rfl, hbf.out⟩
end
section
open Go.ChangeShapes Go.WideShapes Go.ChangeAt Go.RowKit
theorem send_c (g : Nat) (S : CS) (p : Value) (cs : List Value) (w : World) (h : Cl w g S p) (hc : S.opened = some cs) : Calls Try.prog 28 #[.pointer (some ⟨g, 0, none⟩)] w (Sent w S.target cs) := by
 obtain ⟨b, hne, rfl, hb⟩ := h.opened cs hc
 exact send_raw g b S.target cs w h.lt h.cells.2.2.1 h.cells.2.2.2.2.1 hb (h.ok.opened cs hc).1 (h.ok.opened cs hc).2
end
section
open List renaming getElem_toArray → qa, getElem_cons_zero → qb, getElem_cons_succ → qc, setIfInBounds_toArray → qd, set_cons_zero → qe, set_cons_succ → qf
open Go.ChangeShapes Go.WideShapes Go.ChangeAt Go.RowKit
/-- The message that begin opens. -/
def opens (S : CS) (cs : List Value) : List Value := (cs.set 2 (.int .i64 S.id)).set 3 (.int .i64 (S.number + 1))
theorem one_opens {S : CS} {cs : List Value} (h : cs.toArray.all (·.oneCell') = true) : (opens S cs).toArray.all (·.oneCell') = true := by
 simp only [List.all_toArray, List.all_eq_true] at h ⊢
 intro x hx
 rcases List.mem_or_eq_of_mem_set hx with hx | rfl
 ·rcases List.mem_or_eq_of_mem_set hx with hx | rfl
  ·exact h x hx
  ·rfl
 ·rfl
theorem cl_opened {W : World} {g b : Nat} {i m T n : Int} {o : Option (List Value)} {os : List Value} (ok : (CS.mk i m T n o).Ok) (hn : n < 1000000) (hO : os.length = 47) (hOne : os.toArray.all (·.oneCell') = true)
 (hg : Blk W g 74 #[.int .i64 i, .int .i64 m, .int .i64 T, .int .i64 (n + 1), .pointer (some ⟨b, 0, none⟩)]) (hm : Blk W b 41 os.toArray) (hbg : b ≠ g) : Cl W g ⟨i, m, T, n + 1, some os⟩ (.pointer (some ⟨b, 0, none⟩)) := by
 have h0 := ok.number.1
 dsimp only at h0
 exact ⟨hg, ⟨ok.id, ok.machines, ok.target, ⟨by show (0:Int) ≤ n + 1; omega, by show n + 1 ≤ 1000000; omega⟩, fun cs' hc => by injection hc with hc; subst hc; exact ⟨hO, hOne⟩⟩, (fun hc => by cases hc), fun cs' hc => by injection hc with hc; subst hc; exact ⟨b, hbg, rfl, hm⟩⟩
theorem wend (w : World) (g : Nat) (i m T n : Int) (o : Option (List Value)) (p : Value) (os : List Value) (h : Cl w g ⟨i, m, T, n, o⟩ p) :
 let X := ((((w.setCell ⟨g, 3, none⟩ (Value.int .i64 (n + 1))).setCell ⟨g, 4, none⟩ (.pointer (some ⟨w.heap.size, 0, none⟩))).alloc (Obj.cells os.toArray 41)).alloc (Obj.cells (zi :: zmsg).toArray 59)).drew
 Blk X g 74 #[.int .i64 i, .int .i64 m, .int .i64 T, .int .i64 (n + 1), .pointer (some ⟨w.heap.size, 0, none⟩)] ∧ X.cell? ⟨g, 2, none⟩ = some (.int .i64 T) ∧ X.cell? ⟨g, 4, none⟩ = some (.pointer (some ⟨w.heap.size, 0, none⟩)) ∧
 Blk X w.heap.size 41 os.toArray ∧ Blk X (w.heap.size + 1) 59 (zi :: zmsg).toArray ∧ Touch [g] w X := by
 intro X
 have hB : Blk X g 74 #[.int .i64 i, .int .i64 m, .int .i64 T, .int .i64 (n + 1), .pointer (some ⟨w.heap.size, 0, none⟩)] := ((((h.blk.put 3 _).put 4 _).alloc _).alloc _).drew
 have e2 : ((w.setCell ⟨g, 3, none⟩ (Value.int .i64 (n + 1))).setCell ⟨g, 4, none⟩ (.pointer (some ⟨w.heap.size, 0, none⟩))).heap.size = w.heap.size := by simp
 refine ⟨hB, hB.cell 2, hB.cell 4, ?_, ?_, (((((Touch.refl [g] w).set (by simp) 3 _).set (by simp) 4 _).alloc _).alloc _).drew⟩
 ·have := ((Blk.new ((w.setCell ⟨g, 3, none⟩ (Value.int .i64 (n + 1))).setCell ⟨g, 4, none⟩ (.pointer (some ⟨w.heap.size, 0, none⟩))) 41 os.toArray).alloc (Obj.cells (zi :: zmsg).toArray 59)).drew
  rw [e2] at this; exact this
 ·have := (Blk.new (((w.setCell ⟨g, 3, none⟩ (Value.int .i64 (n + 1))).setCell ⟨g, 4, none⟩ (.pointer (some ⟨w.heap.size, 0, none⟩))).alloc (Obj.cells os.toArray 41)) 59 (zi :: zmsg).toArray).drew
  rw [World.size_alloc, e2] at this; exact this
set_option maxRecDepth 100000 in
set_option maxHeartbeats 1000000 in
theorem begin_c (g : Nat) (S : CS) (p : Value) (cs : List Value) (w : World) (h : Cl w g S p) (hl : cs.length = 47) (hone : cs.toArray.all (·.oneCell') = true) (hn : S.number < 1000000) :
 Calls Try.prog 47 #[.pointer (some ⟨g, 0, none⟩), .agg cs.toArray] w fun e w' =>
  e = .returned (.agg (.int .i64 S.target :: opens S cs).toArray) ∧ (∃ q, Cl w' g { S with number := S.number + 1, opened := some (opens S cs) } q) ∧ Touch [g] w w' := by
 have hlt := h.lt
 obtain ⟨c0, c1, c2, c3, c4, f0, f1, f2, f3, f4⟩ := h.cells
 obtain ⟨i, m, T, n, o⟩ := S
 have n0 := h.ok.number.1
 dsimp only at c0 c1 c2 c3 c4 hn n0 ⊢
 have HC := hide h;clear h
 go_enter Try.func47, Try.ntmps47
 go_wp2_with fail
 have key : ∀ cs' : List Value, (fun W => W.cell? ⟨g, 0, none⟩ = some (.int .i64 i) ∧ W.cell? ⟨g, 3, none⟩ = some (.int .i64 (n + 1))) (((w.setCell ⟨g, 3, none⟩ (Value.int .i64 (n + 1))).alloc (Obj.cells cs'.toArray 41)).alloc (Obj.cells (zi :: zmsg).toArray 59)).drew := fun cs' => ⟨(World.cell?_alloc_lt _ _ _ (by simp only [World.size_alloc, Go.World.size_setCell]; exact Nat.lt_succ_of_lt hlt)).trans ((World.cell?_alloc_lt _ _ _ (by simp only [Go.World.size_setCell]; exact hlt)).trans (((HC.out.blk.put 3 _).cell 0))), (World.cell?_alloc_lt _ _ _ (by simp only [World.size_alloc, Go.World.size_setCell]; exact Nat.lt_succ_of_lt hlt)).trans ((World.cell?_alloc_lt _ _ _ (by simp only [Go.World.size_setCell]; exact hlt)).trans (((HC.out.blk.put 3 _).cell 3)))⟩
 refine wp_region_held_drew (S := fun W => W.cell? ⟨g, 0, none⟩ = some (.int .i64 i) ∧ W.cell? ⟨g, 3, none⟩ = some (.int .i64 (n + 1))) (by kernel_rfl) (key cs) (fun hS0 => ?_)
 refine tk 0 ?_;refine tk 1 ?_;refine tk 2 ?_;refine tk 3 ?_;refine tk 4 ?_;refine tk 5 ?_;refine tk 6 ?_;refine tk 7 ?_;refine tk 8 ?_
 refine tr1 9 fun K hK => ?_
 go_simp
 refine hK.out _ _ (key _) (fun hS9 => ?_)
 clear hK K
 try simp only [Act.put, qa, qb, qc, qd, qe, qf]
 refine tk 10 ?_
 refine tr1 11 fun K hK => ?_
 go_simp
 refine hK.out _ _ (key _) (fun hS11 => ?_)
 clear hK K
 try simp only [Act.put, qa, qb, qc, qd, qe, qf]
 refine wpAnyH_done (by kernel_rfl) ?_ _
 clear key
 go_wp2_with fail
 have hO : (opens ⟨i, m, T, n, o⟩ cs).length = 47 := by simp [opens, hl]
 have hOne : (opens ⟨i, m, T, n, o⟩ cs).toArray.all (·.oneCell') = true := one_opens hone
 have eO : (cs.set 2 (Value.int IntKind.i64 i)).set 3 (Value.int IntKind.i64 (n + 1)) = opens ⟨i, m, T, n, o⟩ cs := rfl
 rw [eO]
 obtain ⟨os, hcs⟩ : ∃ os, opens ⟨i, m, T, n, o⟩ cs = os := ⟨_, rfl⟩
 have hcs' := hcs
 rw [hcs] at hO hOne ⊢
 have HCS := hide hcs';clear hcs';have W0 := wend w g i m T n o p os HC.out;have HW0 := hide W0
 refine (send_raw g w.heap.size T os _ ?q1 W0.2.1 W0.2.2.1 W0.2.2.2.1 hO hOne).mono ?_
 case q1 => simp; omega
 clear W0
 rintro e w1 ⟨rfl, hbw⟩
 have HB := hide hbw
 have HO1 := hide (HW0.out.2.2.2.2.1.step hbw)
 have HM1 := hide (HW0.out.2.2.2.1.step hbw)
 have HC1 := hide (HW0.out.1.step hbw)
 have HT1 := hide (HW0.out.2.2.2.2.2.step hbw)
 clear hbw hcs eO HW0 HB
 go_wp2_with (first
  | (refine wpList_store_blk rfl 59 (.tmp 4) (.tmp 26) rfl (w.heap.size + 1) 59 (zi :: zmsg).toArray (.int .i64 T :: os).toArray rfl rfl HO1.out (by simp [hO, zmsg]) (size_out hO) (one_out hOne) ?_; intro W2 hx2 ht2 hs2; have HX2 := hide hx2; have HT2 := hide ht2; clear hx2 ht2 hs2))
 refine bodyPost_ret (results_cell_row rfl _ _ (w.heap.size + 1) 59 _ (0, 0) _ rfl HX2.out Try.underlying59 rfl (size_out hO)) rfl ?_
 have HQ := cl_opened HC.out.ok hn hO hOne (HC1.out.touch HT2.out (by simp; omega)) (HM1.out.touch HT2.out (by simp)) (by omega)
 rw [show opens ⟨i, m, T, n, o⟩ cs = os from HCS.out]
 exact ⟨rfl, ⟨_, HQ⟩, HT1.out.next HT2.out (by simp)⟩
end
section
open Go.ChangeShapes Go.WideShapes Go.ChangeAt Go.RowKit
/-- The cells of a message of zeros with its endpoint. -/
@[irreducible] def zout : List Value := zi :: zmsg
theorem zout_def : zout = zi :: zmsg := by unfold zout; rfl
theorem zout_len : zout.length = 48 := by rw [zout_def]; rfl
theorem zout_info : (Try.prog.info? 59).map (·.zero) = some (some (.agg zout.toArray)) := by
 have h := congrArg (Option.map Prod.fst) info_out
 rw [Option.map_map] at h
 rw [zout_def]
 exact h
theorem zout_built : Try.prog.built 59 [] = some zout.toArray := by rw [zout_def]; exact built_out0
theorem zout_size : (Try.prog.info? 59).map (·.size) = some zout.toArray.size := by rw [zout_def]; exact size_out rfl
theorem zout_one : zout.toArray.all (·.oneCell') = true := by rw [zout_def]; exact one_out (by simp [zmsg, Value.oneCell'])
/-- A request that is open: kind, group, client, number, body, value. -/
def req (k g c n : Int) (b : ByteArray) (v : Int) : List Value := [.int .i64 k, .int .i64 g, .int .i64 c, .int .i64 n, zi, .string b, zi, zi, zi, zi, zi, zl, zl, zi, zi, zi, zi, .int .i64 v] ++ zmsg.drop 18
theorem req_len (k g c n : Int) (b : ByteArray) (v : Int) : (req k g c n b v).length = 47 := rfl
theorem req_one (k g c n : Int) (b : ByteArray) (v : Int) : (req k g c n b v).toArray.all (·.oneCell') = true := by simp [req, zmsg, Value.oneCell']
/-- What a call that asks leaves: the client, the message, the code. -/
structure AskV where
 st : CS
 out : List Value
 code : Int
def AskR (w : World) (g : Nat) (r : AskV) (e : Ending) (w' : World) : Prop :=
 e = .returned (.tuple #[.agg r.out.toArray, .int .i64 r.code]) ∧ (∃ q, Cl w' g r.st q) ∧ Touch [g] w w'
def opened (S : CS) (cs : List Value) : CS := { S with number := S.number + 1, opened := some (opens S cs) }
def cRequest (S : CS) (gr : Int) (b : ByteArray) : AskV :=
 if S.opened ≠ none then ⟨S, zout, 9⟩ else if gr < 0 ∨ 8 < gr then ⟨S, zout, 1⟩ else if 4096 < b.size then ⟨S, zout, 8⟩
 else ⟨opened S (req 1 gr 0 0 b 0), .int .i64 S.target :: opens S (req 1 gr 0 0 b 0), 0⟩
theorem ask_end {w W1 W2 : World} {g : Nat} {S : CS} {p : Value} {out : List Value} {c : Int} (h : Cl w g S p) (hb : Below w.heap.size w W1) (ht : Touch [w.heap.size] W1 W2) : AskR w g ⟨S, out, c⟩ (.returned (.tuple #[.agg out.toArray, .int .i64 c])) W2 := by
 have hb2 : Below w.heap.size w W2 := Below.touch hb ht (by simp) hb.size
 exact ⟨rfl, ⟨p, h.step hb2⟩, Touch.below hb2 _⟩
theorem ask_begun {w W1 W2 W3 : World} {g : Nat} {S : CS} {cs zs : List Value} (hg : g < w.heap.size) (hb : Below w.heap.size w W1) (hz : Blk W1 w.heap.size 59 zs.toArray) (ht : Touch [g] W1 W2) (hc : ∃ q, Cl W2 g { S with number := S.number + 1, opened := some (opens S cs) } q)
 (ht2 : Touch [w.heap.size] W2 W3) : AskR w g ⟨opened S cs, .int .i64 S.target :: opens S cs, 0⟩ (.returned (.tuple #[.agg (Value.int .i64 S.target :: opens S cs).toArray, .int .i64 0])) W3 := by
 obtain ⟨q, hq⟩ := hc
 refine ⟨rfl, ⟨q, hq.blk.touch ht2 (by simp; omega), hq.ok, hq.shut, fun cs' hcs' => ?_⟩, ?_⟩
 ·obtain ⟨b, h1, h2, h3⟩ := hq.opened cs' hcs'
  refine ⟨b, h1, h2, h3.touch ht2 ?_⟩
  simp only [List.mem_singleton]
  rintro rfl
  have hz2 := hz.touch ht (by simp; omega)
  unfold Blk at hz2 h3
  rw [hz2] at h3
  injection h3 with h3
  injection h3 with h4 h5
  exact absurd h5 (by decide)
 ·exact ((Touch.below hb [g]).next ht (by simp)).next ht2 (by simp)
set_option maxRecDepth 100000 in
set_option maxHeartbeats 1000000 in
theorem request_c (g : Nat) (S : CS) (p : Value) (gr : Int) (b : ByteArray) (w : World) (h : Cl w g S p) (hn : S.number < 1000000) (hb : b.size ≤ maxLen) :
 Calls Try.prog 25 #[.pointer (some ⟨g, 0, none⟩), .int .i64 gr, .string b] w (AskR w g (cRequest S gr b)) := by
 have hlt := h.lt;have hc4 := h.cells.2.2.2.2.1;have HC := hide h
 unfold maxLen at hb
 by_cases ho : S.opened = none
 ·have hp := h.shut ho
  subst hp
  unfold cRequest
  rw [if_neg (by simp [ho])]
  by_cases h1 : gr < 0
  ·rw [if_pos (.inl h1)]
   clear h ho hb
   go_enter Try.func25, Try.ntmps25
   go_wp2_with (first
    | (refine wpList_alloc_blk rfl 59 rfl zout.toArray zout_info ?_; intro W1 hx1 hb1 hs1; have hk4 := (hb1.cell hlt).trans hc4; have HX1 := hide hx1; have HB1 := hide hb1; have HS1 := hide hs1; clear hx1 hb1 hs1)
    | (refine wpList_build rfl 59 #[] rfl [] (by simp) zout.toArray zout_built ?_)
    | (refine wpList_store_blk rfl 59 (.tmp 6) _ rfl w.heap.size 59 zout.toArray zout.toArray rfl rfl HX1.out rfl zout_size zout_one ?_; intro W2 hx2 ht2 hs2; have HX2 := hide hx2; have HT2 := hide ht2; clear hx2 ht2 hs2))
   refine bodyPost_ret (results_row_tmp Try.results25 _ _ w.heap.size 59 _ (0, 0) _ _ rfl rfl HX2.out Try.underlying59 rfl zout_size) rfl ?_
   exact ask_end HC.out HB1.out HT2.out
  have h1' : 0 ≤ gr := by omega
  by_cases h2 : 8 < gr
  ·rw [if_pos (.inr h2)]
   clear h ho hb h1
   go_enter Try.func25, Try.ntmps25
   go_wp2_with (first
    | (refine wpList_alloc_blk rfl 59 rfl zout.toArray zout_info ?_; intro W1 hx1 hb1 hs1; have hk4 := (hb1.cell hlt).trans hc4; have HX1 := hide hx1; have HB1 := hide hb1; have HS1 := hide hs1; clear hx1 hb1 hs1)
    | (refine wpList_build rfl 59 #[] rfl [] (by simp) zout.toArray zout_built ?_)
    | (refine wpList_store_blk rfl 59 (.tmp 6) _ rfl w.heap.size 59 zout.toArray zout.toArray rfl rfl HX1.out rfl zout_size zout_one ?_; intro W2 hx2 ht2 hs2; have HX2 := hide hx2; have HT2 := hide ht2; clear hx2 ht2 hs2))
   refine bodyPost_ret (results_row_tmp Try.results25 _ _ w.heap.size 59 _ (0, 0) _ _ rfl rfl HX2.out Try.underlying59 rfl zout_size) rfl ?_
   exact ask_end HC.out HB1.out HT2.out
  have h2' : gr ≤ 8 := by omega
  rw [if_neg (by omega)]
  by_cases h3 : 4096 < b.size
  ·rw [if_pos h3]
   have h3' : 4096 < (b.size : Int) := by omega
   clear h ho h1 h2 h3
   go_enter Try.func25, Try.ntmps25
   go_wp2_with (first
    | (refine wpList_alloc_blk rfl 59 rfl zout.toArray zout_info ?_; intro W1 hx1 hb1 hs1; have hk4 := (hb1.cell hlt).trans hc4; have HX1 := hide hx1; have HB1 := hide hb1; have HS1 := hide hs1; clear hx1 hb1 hs1)
    | (refine wpList_build rfl 59 #[] rfl [] (by simp) zout.toArray zout_built ?_)
    | (refine wpList_store_blk rfl 59 (.tmp 6) _ rfl w.heap.size 59 zout.toArray zout.toArray rfl rfl HX1.out rfl zout_size zout_one ?_; intro W2 hx2 ht2 hs2; have HX2 := hide hx2; have HT2 := hide ht2; clear hx2 ht2 hs2))
   refine bodyPost_ret (results_row_tmp Try.results25 _ _ w.heap.size 59 _ (0, 0) _ _ rfl rfl HX2.out Try.underlying59 rfl zout_size) rfl ?_
   exact ask_end HC.out HB1.out HT2.out
  rw [if_neg h3]
  have h3' : (b.size : Int) ≤ 4096 := by omega
  have HBC := hide (fun (X : World) (k : Below w.heap.size w X) => begin_c g S (.pointer none) (req 1 gr 0 0 b 0) X (h.step k) (req_len _ _ _ _ _ _) (req_one _ _ _ _ _ _) hn)
  have HOL : Hid ((opens S (req 1 gr 0 0 b 0)).length = 47) := hide (by simp [opens, req_len])
  have HO1 : Hid ((opens S (req 1 gr 0 0 b 0)).toArray.all (·.oneCell') = true) := hide (one_opens (req_one _ _ _ _ _ _))
  clear h ho h1 h2 h3
  go_enter Try.func25, Try.ntmps25
  go_wp2_with (first
   | (refine wpList_alloc_blk rfl 59 rfl zout.toArray zout_info ?_; intro W1 hx1 hb1 hs1; have hk4 := (hb1.cell hlt).trans hc4; have HX1 := hide hx1; have HB1 := hide hb1; have HS1 := hide hs1; clear hx1 hb1 hs1)
   | (refine wpList_build rfl 59 #[] rfl [] (by simp) zout.toArray zout_built ?_)
   | (refine wpList_store_blk rfl 59 (.tmp 6) _ rfl w.heap.size 59 zout.toArray zout.toArray rfl rfl HX1.out rfl zout_size zout_one ?_; intro W2 hx2 ht2 hs2; have HX2 := hide hx2; have HT2 := hide ht2; clear hx2 ht2 hs2))
  refine (HBC.out W1 HB1.out).mono ?_
  rintro e w1 ⟨rfl, hcl, ht⟩
  have HCL := hide hcl;have HT := hide ht
  have HXW := hide (HX1.out.touch ht (by simp; omega))
  have HON : Hid ((Value.int .i64 S.target :: opens S (req 1 gr 0 0 b 0)).length = 48) := hide (by rw [List.length_cons, HOL.out])
  have HOS : Hid ((Try.prog.info? 59).map (·.size) = some (Value.int .i64 S.target :: opens S (req 1 gr 0 0 b 0)).toArray.size) := hide (size_out HOL.out)
  have HOO : Hid ((Value.int .i64 S.target :: opens S (req 1 gr 0 0 b 0)).toArray.all (·.oneCell') = true) := hide (one_out HO1.out)
  have HEND := hide (fun (W3 : World) (ht2 : Touch [w.heap.size] w1 W3) => ask_begun hlt HB1.out HX1.out HT.out HCL.out ht2)
  clear hcl ht HBC HCL HOL HO1
  generalize (Value.int .i64 S.target :: opens S (req 1 gr 0 0 b 0)) = os at *
  go_wp2_with (first
   | (refine wpList_store_blk rfl 59 (.tmp 6) _ rfl w.heap.size 59 zout.toArray os.toArray rfl rfl HXW.out (by rw [List.size_toArray, List.size_toArray, HON.out, zout_len]) HOS.out HOO.out ?_; intro W2 hx2 ht2 hs2; have HX2 := hide hx2; have HT2 := hide ht2; clear hx2 ht2 hs2))
  refine bodyPost_ret (results_row_tmp Try.results25 _ _ w.heap.size 59 _ (0, 0) _ _ rfl rfl HX2.out Try.underlying59 rfl HOS.out) rfl ?_
  exact HEND.out _ HT2.out
 ·have hs : ∃ cs, S.opened = some cs := by cases hq : S.opened with | none => exact absurd hq ho | some cs => exact ⟨cs, rfl⟩
  obtain ⟨cs, hs⟩ := hs
  obtain ⟨b0, hne, rfl, _⟩ := h.opened cs hs
  unfold cRequest
  rw [if_pos ho]
  clear h ho hs hb
  go_enter Try.func25, Try.ntmps25
  go_wp2_with (first
   | (refine wpList_alloc_blk rfl 59 rfl zout.toArray zout_info ?_; intro W1 hx1 hb1 hs1; have hk4 := (hb1.cell hlt).trans hc4; have HX1 := hide hx1; have HB1 := hide hb1; have HS1 := hide hs1; clear hx1 hb1 hs1)
   | (refine wpList_build rfl 59 #[] rfl [] (by simp) zout.toArray zout_built ?_)
   | (refine wpList_store_blk rfl 59 (.tmp 6) _ rfl w.heap.size 59 zout.toArray zout.toArray rfl rfl HX1.out rfl zout_size zout_one ?_; intro W2 hx2 ht2 hs2; have HX2 := hide hx2; have HT2 := hide ht2; clear hx2 ht2 hs2))
  refine bodyPost_ret (results_row_tmp Try.results25 _ _ w.heap.size 59 _ (0, 0) _ _ rfl rfl HX2.out Try.underlying59 rfl zout_size) rfl ?_
  exact ask_end HC.out HB1.out HT2.out
end
section
open List renaming getElem_toArray → qa, getElem_cons_zero → qb, getElem_cons_succ → qc, setIfInBounds_toArray → qd, set_cons_zero → qe, set_cons_succ → qf
open Go.ChangeShapes Go.WideShapes Go.ChangeAt Go.RowKit
structure RetV where
 st : CS
 out : List Value
 is : Bool
def RetR (w : World) (g : Nat) (r : RetV) (e : Ending) (w' : World) : Prop :=
 e = .returned (.tuple #[.agg r.out.toArray, .bool r.is]) ∧ (∃ q, Cl w' g r.st q) ∧ Touch [g] w w'
def turned (S : CS) : CS := { S with target := S.target % S.machines + 1 }
def cRetry (S : CS) : RetV := match S.opened with
 | none => ⟨S, zout, false⟩
 | some cs => ⟨turned S, .int .i64 (turned S).target :: cs, true⟩
theorem ret_end {w W1 W2 : World} {g : Nat} {S : CS} {p : Value} {out : List Value} {c : Bool} (h : Cl w g S p) (hb : Below w.heap.size w W1) (ht : Touch [w.heap.size] W1 W2) : RetR w g ⟨S, out, c⟩ (.returned (.tuple #[.agg out.toArray, .bool c])) W2 := by
 have hb2 : Below w.heap.size w W2 := Below.touch hb ht (by simp) hb.size
 exact ⟨rfl, ⟨p, h.step hb2⟩, Touch.below hb2 _⟩
theorem turned_ok {S : CS} (h : S.Ok) : (turned S).Ok := by
 have h1 := h.machines
 have h2 := Int.emod_nonneg S.target (show S.machines ≠ 0 by omega)
 have h3 := Int.emod_lt_of_pos S.target (show 0 < S.machines by omega)
 exact ⟨h.id, h.machines, ⟨by show 1 ≤ S.target % S.machines + 1; omega, by show S.target % S.machines + 1 ≤ S.machines; omega⟩, h.number, h.opened⟩
theorem Cl.drew {w : World} {g : Nat} {S : CS} {p : Value} (h : Cl w g S p) : Cl w.drew g S p := ⟨h.blk.drew, h.ok, h.shut, fun cs hc => by obtain ⟨b, h1, h2, h3⟩ := h.opened cs hc; exact ⟨b, h1, h2, h3.drew⟩⟩
theorem Cl.far_of {w w' : World} {g : Nat} {S : CS} {p : Value} {L : List Nat} (h : Cl w g S p) (k : Touch L w w') (hg : g ∉ L) (hp : ∀ b, p = .pointer (some ⟨b, 0, none⟩) → b ∉ L) : Cl w' g S p :=
 ⟨h.blk.touch k hg, h.ok, h.shut, fun cs hc => by obtain ⟨b, h1, h2, h3⟩ := h.opened cs hc; exact ⟨b, h1, h2, h3.touch k (hp b h2)⟩⟩
theorem cl_turned {w : World} {g : Nat} {S : CS} {p : Value} (h : Cl w g S p) {t : Int} (ht : t = S.target % S.machines + 1) : Cl (w.setCell ⟨g, 2, none⟩ (.int .i64 t)) g (turned S) p := by
 subst ht
 exact ⟨h.blk.put 2 _, turned_ok h.ok, h.shut, fun cs hc => by obtain ⟨b, h1, h2, h3⟩ := h.opened cs hc; exact ⟨b, h1, h2, h3.far h1 _⟩⟩
set_option maxRecDepth 100000 in
set_option maxHeartbeats 1000000 in
theorem retry_c (g : Nat) (S : CS) (p : Value) (w : World) (h : Cl w g S p) :
 Calls Try.prog 18 #[.pointer (some ⟨g, 0, none⟩)] w (RetR w g (cRetry S)) := by
 have hlt := h.lt;have hc4 := h.cells.2.2.2.2.1;have HC := hide h
 unfold cRetry
 cases ho : S.opened with
 | none =>
  have hp := h.shut ho
  subst hp
  clear h ho
  go_enter Try.func18, Try.ntmps18
  go_wp2_with (first
   | (refine wpList_alloc_blk rfl 59 rfl zout.toArray zout_info ?_; intro W1 hx1 hb1 hs1; have hk4 := (hb1.cell hlt).trans hc4; have HX1 := hide hx1; have HB1 := hide hb1; have HS1 := hide hs1; clear hx1 hb1 hs1)
   | (refine wpList_build rfl 59 #[] rfl [] (by simp) zout.toArray zout_built ?_)
   | (refine wpList_store_blk rfl 59 (.tmp 2) _ rfl w.heap.size 59 zout.toArray zout.toArray rfl rfl HX1.out rfl zout_size zout_one ?_; intro W2 hx2 ht2 hs2; have HX2 := hide hx2; have HT2 := hide ht2; clear hx2 ht2 hs2))
  refine bodyPost_ret (results_row_tmp Try.results18 _ _ w.heap.size 59 _ (0, 0) _ _ rfl rfl HX2.out Try.underlying59 rfl zout_size) rfl ?_
  exact ret_end HC.out HB1.out HT2.out
 | some cs =>
  obtain ⟨b, hbg, rfl, hbm⟩ := h.opened cs ho
  have hl := (h.ok.opened cs ho).1
  have hone := (h.ok.opened cs ho).2
  have c1 := h.cells.2.1;have c2 := h.cells.2.2.1;have f2 := h.cells.2.2.2.2.2.2.2.1;have hm := h.ok.machines;have hT := h.ok.target;have HO := hide ho
  have e1 : S.target.tmod S.machines = S.target % S.machines := Int.tmod_eq_emod_of_nonneg (by omega)
  have r1 := Int.emod_nonneg S.target (show S.machines ≠ 0 by omega)
  have r2 := Int.emod_lt_of_pos S.target (show 0 < S.machines by omega)
  obtain ⟨r, hr⟩ : ∃ r, S.target % S.machines = r := ⟨_, rfl⟩
  rw [hr] at e1 r1 r2
  have HR := hide hr
  have hm0 : ¬ S.machines = 0 := by omega
  generalize hM : S.machines = M at *
  generalize hTT : S.target = T at *
  have HM := hide hM;have HTT := hide hTT;clear h ho hbm hM hTT hr
  go_enter Try.func18, Try.ntmps18
  go_wp2_with (first
   | (refine wpList_alloc_blk rfl 59 rfl zout.toArray zout_info ?_; intro W1 hx1 hb1 hs1; have hk4 := (hb1.cell hlt).trans hc4; have hk1 := (hb1.cell hlt).trans c1; have hk2 := (hb1.cell hlt).trans c2; have hf2 := (hb1.frozen hlt).trans f2; have HX1 := hide hx1; have HB1 := hide hb1; have HS1 := hide hs1; clear hx1 hb1 hs1))
  have hw1 : IntKind.i64.wrap (r + 1) = r + 1 := IntWalk.i64_in _ (by omega)
  have HCL := hide ((cl_turned (HC.out.step HB1.out) (t := r + 1) (by rw [← HR.out, HM.out, HTT.out])).drew)
  have hkM : (W1.setCell ⟨g, 2, none⟩ (.int .i64 (r + 1))).drew.cell? ⟨g, 1, none⟩ = some (.int .i64 M) := by
   have := HCL.out.cells.2.1
   rw [show (turned S).machines = M from HM.out] at this
   exact this
  refine wp_region_held_drew (S := fun W => W.cell? ⟨g, 1, none⟩ = some (.int .i64 M)) (by kernel_rfl) (hk1) (fun hS0 => ?_)
  refine tk 0 ?_;refine tk 1 ?_;refine tk 2 ?_;refine tk 3 ?_;refine tk 5 ?_;refine tk 6 ?_;refine tk 7 ?_;refine tk 8 ?_
  refine tr1 4 fun K hK => ?_
  go_simp
  refine hK.out _ _ (hk1) (fun hS8 => ?_)
  clear hK K
  try simp only [Act.put, qa, qb, qc, qd, qe, qf]
  refine tk 9 ?_;refine tk 10 ?_;refine tk 11 ?_;refine tk 12 ?_
  refine tr1 13 fun K hK => ?_
  go_simp
  refine hK.out _ _ (hkM) (fun hS13 => ?_)
  clear hK K
  try simp only [Act.put, qa, qb, qc, qd, qe, qf]
  refine wpAnyH_done (by kernel_rfl) ?_ _
  have HTU : Hid (r + 1 = (turned S).target) := hide (by show r + 1 = S.target % S.machines + 1; rw [HM.out, HTT.out, HR.out])
  have HTW : Hid (Touch [g] W1 (W1.setCell ⟨g, 2, none⟩ (.int .i64 (r + 1))).drew) := hide (((Touch.refl [g] W1).set (by simp) 2 _).drew)
  have HXW := hide (HX1.out.touch HTW.out (by simp; omega))
  obtain ⟨W2, hW2⟩ : ∃ W2, W2 = (W1.setCell ⟨g, 2, none⟩ (.int .i64 (r + 1))).drew := ⟨_, rfl⟩
  rw [← hW2] at HCL HTW HXW ⊢
  have HSND := hide (send_c g (turned S) (.pointer (some ⟨b, 0, none⟩)) cs W2 HCL.out HO.out)
  rw [← HTU.out] at HSND
  clear hW2 hkM hw1 hS8 hS13 hk1 hk2 hk4 hf2 hS0
  go_wp2_with fail
  refine HSND.out.mono ?_
  rintro e W3 ⟨rfl, hb3⟩
  have HB3 := hide hb3
  have HX3 := hide (HXW.out.step hb3)
  clear hb3 HSND
  go_wp2_with (first
   | (refine wpList_store_blk rfl 59 (.tmp 2) _ rfl w.heap.size 59 zout.toArray (.int .i64 (r + 1) :: cs).toArray rfl rfl HX3.out (by simp [hl, zout_len]) (size_out hl) (one_out hone) ?_; intro W4 hx4 ht4 hs4; have HX4 := hide hx4; have HT4 := hide ht4; clear hx4 ht4 hs4))
  refine bodyPost_ret (results_row_tmp Try.results18 _ _ w.heap.size 59 _ (0, 0) _ _ rfl rfl HX4.out Try.underlying59 rfl (size_out hl)) rfl ?_
  have hne : b ≠ w.heap.size := by
   obtain ⟨b', _, hp', hb'⟩ := HC.out.opened cs HO.out
   have := hb'.lt
   injection hp' with hp'
   injection hp' with hp'
   injection hp' with hp1
   omega
  rw [← HTU.out]
  refine ⟨rfl, ⟨.pointer (some ⟨b, 0, none⟩), (HCL.out.step HB3.out).far_of HT4.out (by simp; omega) (fun b' hb' => by injection hb' with hb'; injection hb' with hb'; injection hb' with hb'; simp; omega)⟩, ?_⟩
  exact (((Touch.below HB1.out [g]).trans HTW.out).step HB3.out).next HT4.out (by simp)
end
section
open Go.ChangeShapes Go.WideShapes Go.ChangeAt Go.RowKit
@[irreducible] def zmsgI : List Value := zmsg
theorem zmsgI_def : zmsgI = zmsg := by unfold zmsgI; rfl
theorem zmsgI_len : zmsgI.length = 47 := by rw [zmsgI_def]; rfl
theorem zmsgI_info : (Try.prog.info? 41).map (·.zero) = some (some (.agg zmsgI.toArray)) := by
 have h := congrArg (Option.map Prod.fst) info_msg
 rw [Option.map_map] at h
 rw [zmsgI_def]
 exact h
theorem zmsgI_built : Try.prog.built 41 [] = some zmsgI.toArray := by rw [zmsgI_def]; exact built_zero
theorem zmsgI_one : zmsgI.toArray.all (·.oneCell') = true := by rw [zmsgI_def]; simp [zmsg, Value.oneCell']
end
end Go.Proofs.Ytpbgelhjbfckcaa
