/- answers. -/
import Derived.Test.YtpbgelhjbfckcaaV16
import Derived.Test.YtpbgelhjbfckcaaV02
import Derived.Test.YtpbgelhjbfckcaaV01
import Derived.Great.Walk
namespace Go.Proofs.Ytpbgelhjbfckcaa
set_option linter.unusedVariables false
set_option linter.unusedSimpArgs false
section
open List renaming getElem_toArray → qa, getElem_cons_zero → qb, getElem_cons_succ → qc, setIfInBounds_toArray → qd, set_cons_zero → qe, set_cons_succ → qf
open Go.ChangeMaps Go.ChangeShapes Go.WideShapes Go.ChangeAt Go.RowKit
/-- A message that came in: kind, group, client, number, code, body, leader and the other cells. -/
structure MV where
 kind : Int
 group : Int
 client : Int
 number : Int
 code : Int
 body : ByteArray
 leader : Int
 rest : List Value
def MV.cells (m : MV) : List Value := .int .i64 m.kind :: .int .i64 m.group :: .int .i64 m.client :: .int .i64 m.number :: .int .i64 m.code :: .string m.body :: .int .i64 m.leader :: m.rest
structure MV.Ok (m : MV) : Prop where
 len : m.rest.length = 40
 one : ∀ v ∈ m.rest, v.oneCell' = true
 leader : -9223372036854775808 ≤ m.leader ∧ m.leader ≤ 9223372036854775807
theorem MV.Ok.size {m : MV} (h : m.Ok) : m.cells.length = 47 := by simp [MV.cells, h.len]
theorem MV.Ok.ones {m : MV} (h : m.Ok) : m.cells.toArray.all (·.oneCell') = true := by
 simpa [MV.cells, Value.oneCell'] using h.one
/-- The reply's kind to a request's. -/
def replyTo (k : Int) : Int := if k = 1 then 2 else 10
def answD {H : Type} : DataW H := .map [(.int .i64 1, .lit (.int .i64 2)), (.int .i64 9, .lit (.int .i64 10))]
theorem lit_int_inj {a b : Int} (h : (DataW.lit (.int .i64 a) : DataW Unit) = .lit (.int .i64 b)) : a = b := by
 injection h with h; injection h with _ h
theorem answ_look {w : World} {b n : Nat} (h : w.ownsMap (H := Unit) Try.prog 3 (plainElem Try.prog 3) b n answD) (k : Int) (hk : k = 1 ∨ k = 9) :
 (Instr.lookup 111 (.map (some b)) (.int .i64 k) false).run Try.prog w = .ok (.int .i64 (replyTo k)) w := by
 have hz : (zeroValue 3).run Try.prog w = .ok (.int .i64 0) w := by kernel_rfl
 obtain ⟨c, hrun, hat, _⟩ := h.lookup_int (Go.Maps.int_keyed Try.underlying3) Try.underlying111 Try.underlying3 hz (key := .int .i64 k) (kl := .int .i64 k) (Go.Maps.keyOf_int_mk Try.underlying3 (by rcases hk with rfl | rfl <;> decide))
 rw [hrun]
 have : c = replyTo k := by
  rcases hk with rfl | rfl
  ·have e : answD.atKey (H := Unit) (.int .i64 1) (.lit (.int .i64 0)) = .lit (.int .i64 2) := by kernel_rfl
   exact lit_int_inj (hat.symm.trans e)
  ·have e : answD.atKey (H := Unit) (.int .i64 9) (.lit (.int .i64 0)) = .lit (.int .i64 10) := by kernel_rfl
   exact lit_int_inj (hat.symm.trans e)
 rw [this]
/-- The answer's sign. -/
def answersB (S : CS) (k0 g0 : Int) (m : MV) : Bool := decide (m.group = g0 ∧ m.client = S.id ∧ m.number = S.number ∧ m.kind = replyTo k0)
def AnsR (w : World) (x : Bool) (e : Ending) (w' : World) : Prop := e = .returned (.bool x) ∧ Below w.heap.size w w'
set_option maxRecDepth 100000 in
set_option maxHeartbeats 2000000 in
theorem answers_c (g : Nat) (S : CS) (p : Value) (m : MV) (w : World) (h : Cl w g S p) (k0 g0 : Int) (rs : List Value) (ho : S.opened = some (.int .i64 k0 :: .int .i64 g0 :: rs)) (hk : k0 = 1 ∨ k0 = 9) :
 Calls Try.prog 27 #[.pointer (some ⟨g, 0, none⟩), .agg m.cells.toArray] w (AnsR w (answersB S k0 g0 m)) := by
 have hlt := h.lt
 obtain ⟨c0, c1, c2, c3, c4, f0, f1, f2, f3, f4⟩ := h.cells
 obtain ⟨bk, hbg, rfl, hbm⟩ := h.opened _ ho
 have hbl := hbm.lt
 have y0' := hbm.cell 0
 have y1' := hbm.cell 1
 simp only [List.getElem?_toArray, List.getElem?_cons_zero, List.getElem?_cons_succ] at y0' y1'
 unfold answersB
 clear h ho hbm f0 f1 f2 f3 f4 c1 c2
 by_cases h1 : m.group = g0
 rotate_left
 ·have hd1 : (m.group != g0) = true := by simpa using h1
  rw [decide_eq_false (by intro hh; exact h1 hh.1)]
  clear hk h1
  go_enter Try.func27, Try.ntmps27
  go_wp2_with (first | (refine wpList_box_blk rfl 41 (.tmp 1) rfl m.cells.toArray rfl ?_; intro W1 hx1 hb1 hs1; have hk0 := (hb1.cell hlt).trans c0; have hk3 := (hb1.cell hlt).trans c3; have hk4 := (hb1.cell hlt).trans c4; have x0 := hx1.cell 0; have x1 := hx1.cell 1; have x2 := hx1.cell 2; have x3 := hx1.cell 3; unfold MV.cells at x0 x1 x2 x3; simp only [List.getElem?_toArray, List.getElem?_cons_zero, List.getElem?_cons_succ] at x0 x1 x2 x3; have y0 := (hb1.cell hbl).trans y0'; have y1 := (hb1.cell hbl).trans y1'; have HX1 := hide hx1; have HB1 := hide hb1; have HS1 := hide hs1; clear hx1 hb1 hs1))
  have key : (fun W => W.cell? ⟨g, 0, none⟩ = some (.int .i64 S.id) ∧ W.cell? ⟨g, 3, none⟩ = some (.int .i64 S.number) ∧ W.cell? ⟨g, 4, none⟩ = some (.pointer (some ⟨bk, 0, none⟩)) ∧ W.cell? ⟨w.heap.size, 1, none⟩ = some (.int .i64 m.group) ∧ W.cell? ⟨w.heap.size, 2, none⟩ = some (.int .i64 m.client) ∧ W.cell? ⟨w.heap.size, 3, none⟩ = some (.int .i64 m.number) ∧ W.cell? ⟨bk, 1, none⟩ = some (.int .i64 g0)) W1.drew := ⟨hk0, hk3, hk4, x1, x2, x3, y1⟩
  refine wp_region_held_drew (S := fun W => W.cell? ⟨g, 0, none⟩ = some (.int .i64 S.id) ∧ W.cell? ⟨g, 3, none⟩ = some (.int .i64 S.number) ∧ W.cell? ⟨g, 4, none⟩ = some (.pointer (some ⟨bk, 0, none⟩)) ∧ W.cell? ⟨w.heap.size, 1, none⟩ = some (.int .i64 m.group) ∧ W.cell? ⟨w.heap.size, 2, none⟩ = some (.int .i64 m.client) ∧ W.cell? ⟨w.heap.size, 3, none⟩ = some (.int .i64 m.number) ∧ W.cell? ⟨bk, 1, none⟩ = some (.int .i64 g0)) (by kernel_rfl) (key) (fun hS0 => ?_)
  refine tk 0 ?_;refine tk 1 ?_;refine tk 2 ?_;refine tk 3 ?_;refine tk 4 ?_;refine tk 5 ?_;refine tk 6 ?_;refine tk 7 ?_;refine tk 8 ?_;refine tk 9 ?_;refine tk 10 ?_;refine tk 11 ?_;refine tk 12 ?_;refine tk 13 ?_;refine tk 14 ?_;refine tk 15 ?_;refine tk 16 ?_;refine tk 17 ?_;refine tu 18 ?_;refine tu 19 ?_;refine tu 20 ?_;refine tu 21 ?_;refine tu 22 ?_;refine tu 23 ?_;refine tu 24 ?_;refine tk 25 ?_;refine tk 26 ?_;refine tu 27 ?_;refine tu 28 ?_;refine tu 29 ?_;refine tu 30 ?_;refine tu 31 ?_;refine tu 32 ?_;refine tu 33 ?_;refine tk 34 ?_
  refine wpAnyH_done (by kernel_rfl) ?_ _
  go_wp2_with fail
  go_ret
  exact ⟨rfl, HB1.out.drew⟩
 have hd1 : (m.group != g0) = false := by simpa using h1
 by_cases h2 : m.client = S.id
 rotate_left
 ·have hd2 : (m.client != S.id) = true := by simpa using h2
  rw [decide_eq_false (by intro hh; exact h2 hh.2.1)]
  clear hk h1 h2
  go_enter Try.func27, Try.ntmps27
  go_wp2_with (first | (refine wpList_box_blk rfl 41 (.tmp 1) rfl m.cells.toArray rfl ?_; intro W1 hx1 hb1 hs1; have hk0 := (hb1.cell hlt).trans c0; have hk3 := (hb1.cell hlt).trans c3; have hk4 := (hb1.cell hlt).trans c4; have x0 := hx1.cell 0; have x1 := hx1.cell 1; have x2 := hx1.cell 2; have x3 := hx1.cell 3; unfold MV.cells at x0 x1 x2 x3; simp only [List.getElem?_toArray, List.getElem?_cons_zero, List.getElem?_cons_succ] at x0 x1 x2 x3; have y0 := (hb1.cell hbl).trans y0'; have y1 := (hb1.cell hbl).trans y1'; have HX1 := hide hx1; have HB1 := hide hb1; have HS1 := hide hs1; clear hx1 hb1 hs1))
  have key : (fun W => W.cell? ⟨g, 0, none⟩ = some (.int .i64 S.id) ∧ W.cell? ⟨g, 3, none⟩ = some (.int .i64 S.number) ∧ W.cell? ⟨g, 4, none⟩ = some (.pointer (some ⟨bk, 0, none⟩)) ∧ W.cell? ⟨w.heap.size, 1, none⟩ = some (.int .i64 m.group) ∧ W.cell? ⟨w.heap.size, 2, none⟩ = some (.int .i64 m.client) ∧ W.cell? ⟨w.heap.size, 3, none⟩ = some (.int .i64 m.number) ∧ W.cell? ⟨bk, 1, none⟩ = some (.int .i64 g0)) W1.drew := ⟨hk0, hk3, hk4, x1, x2, x3, y1⟩
  refine wp_region_held_drew (S := fun W => W.cell? ⟨g, 0, none⟩ = some (.int .i64 S.id) ∧ W.cell? ⟨g, 3, none⟩ = some (.int .i64 S.number) ∧ W.cell? ⟨g, 4, none⟩ = some (.pointer (some ⟨bk, 0, none⟩)) ∧ W.cell? ⟨w.heap.size, 1, none⟩ = some (.int .i64 m.group) ∧ W.cell? ⟨w.heap.size, 2, none⟩ = some (.int .i64 m.client) ∧ W.cell? ⟨w.heap.size, 3, none⟩ = some (.int .i64 m.number) ∧ W.cell? ⟨bk, 1, none⟩ = some (.int .i64 g0)) (by kernel_rfl) (key) (fun hS0 => ?_)
  refine tk 0 ?_;refine tk 1 ?_;refine tk 2 ?_;refine tk 3 ?_;refine tk 4 ?_;refine tk 5 ?_;refine tk 6 ?_;refine tk 7 ?_;refine tk 8 ?_;refine tk 9 ?_;refine tk 10 ?_;refine tk 11 ?_;refine tk 12 ?_;refine tk 13 ?_;refine tk 14 ?_;refine tk 15 ?_;refine tk 16 ?_;refine tk 17 ?_;refine tk 18 ?_;refine tk 19 ?_;refine tk 20 ?_;refine tk 21 ?_;refine tk 22 ?_;refine tk 23 ?_;refine tk 24 ?_;refine tk 25 ?_;refine tk 26 ?_;refine tu 27 ?_;refine tu 28 ?_;refine tu 29 ?_;refine tu 30 ?_;refine tu 31 ?_;refine tu 32 ?_;refine tu 33 ?_;refine tk 34 ?_
  refine wpAnyH_done (by kernel_rfl) ?_ _
  go_wp2_with fail
  go_ret
  exact ⟨rfl, HB1.out.drew⟩
 have hd2 : (m.client != S.id) = false := by simpa using h2
 by_cases h3 : m.number = S.number
 rotate_left
 ·have hd3 : (m.number != S.number) = true := by simpa using h3
  rw [decide_eq_false (by intro hh; exact h3 hh.2.2.1)]
  clear hk h1 h2 h3
  go_enter Try.func27, Try.ntmps27
  go_wp2_with (first | (refine wpList_box_blk rfl 41 (.tmp 1) rfl m.cells.toArray rfl ?_; intro W1 hx1 hb1 hs1; have hk0 := (hb1.cell hlt).trans c0; have hk3 := (hb1.cell hlt).trans c3; have hk4 := (hb1.cell hlt).trans c4; have x0 := hx1.cell 0; have x1 := hx1.cell 1; have x2 := hx1.cell 2; have x3 := hx1.cell 3; unfold MV.cells at x0 x1 x2 x3; simp only [List.getElem?_toArray, List.getElem?_cons_zero, List.getElem?_cons_succ] at x0 x1 x2 x3; have y0 := (hb1.cell hbl).trans y0'; have y1 := (hb1.cell hbl).trans y1'; have HX1 := hide hx1; have HB1 := hide hb1; have HS1 := hide hs1; clear hx1 hb1 hs1))
  have key : (fun W => W.cell? ⟨g, 0, none⟩ = some (.int .i64 S.id) ∧ W.cell? ⟨g, 3, none⟩ = some (.int .i64 S.number) ∧ W.cell? ⟨g, 4, none⟩ = some (.pointer (some ⟨bk, 0, none⟩)) ∧ W.cell? ⟨w.heap.size, 1, none⟩ = some (.int .i64 m.group) ∧ W.cell? ⟨w.heap.size, 2, none⟩ = some (.int .i64 m.client) ∧ W.cell? ⟨w.heap.size, 3, none⟩ = some (.int .i64 m.number) ∧ W.cell? ⟨bk, 1, none⟩ = some (.int .i64 g0)) W1.drew := ⟨hk0, hk3, hk4, x1, x2, x3, y1⟩
  refine wp_region_held_drew (S := fun W => W.cell? ⟨g, 0, none⟩ = some (.int .i64 S.id) ∧ W.cell? ⟨g, 3, none⟩ = some (.int .i64 S.number) ∧ W.cell? ⟨g, 4, none⟩ = some (.pointer (some ⟨bk, 0, none⟩)) ∧ W.cell? ⟨w.heap.size, 1, none⟩ = some (.int .i64 m.group) ∧ W.cell? ⟨w.heap.size, 2, none⟩ = some (.int .i64 m.client) ∧ W.cell? ⟨w.heap.size, 3, none⟩ = some (.int .i64 m.number) ∧ W.cell? ⟨bk, 1, none⟩ = some (.int .i64 g0)) (by kernel_rfl) (key) (fun hS0 => ?_)
  refine tk 0 ?_;refine tk 1 ?_;refine tk 2 ?_;refine tk 3 ?_;refine tk 4 ?_;refine tk 5 ?_;refine tk 6 ?_;refine tk 7 ?_;refine tk 8 ?_;refine tk 9 ?_;refine tk 10 ?_;refine tk 11 ?_;refine tk 12 ?_;refine tk 13 ?_;refine tk 14 ?_;refine tk 15 ?_;refine tk 16 ?_;refine tk 17 ?_;refine tk 18 ?_;refine tk 19 ?_;refine tk 20 ?_;refine tk 21 ?_;refine tk 22 ?_;refine tk 23 ?_;refine tk 24 ?_;refine tk 25 ?_;refine tk 26 ?_;refine tk 27 ?_;refine tk 28 ?_;refine tk 29 ?_;refine tk 30 ?_;refine tk 31 ?_;refine tk 32 ?_;refine tk 33 ?_;refine tk 34 ?_
  refine wpAnyH_done (by kernel_rfl) ?_ _
  go_wp2_with fail
  go_ret
  exact ⟨rfl, HB1.out.drew⟩
 have hd3 : (m.number != S.number) = false := by simpa using h3
 have HDC : Hid (decide (m.group = g0 ∧ m.client = S.id ∧ m.number = S.number ∧ m.kind = replyTo k0) = decide (m.kind = replyTo k0)) := hide (by simp [h1, h2, h3])
 rw [HDC.out]
 have HLK := hide (fun (X : World) (q : Nat) (hX : X.ownsMap (H := Unit) Try.prog 3 (plainElem Try.prog 3) q 2 answD) => answ_look hX k0 hk)
 have HKY : Hid (∀ z : Int, z = 1 ∨ z = 9 → keyOf Try.prog 3 (.int .i64 z) = some (.int .i64 z)) := hide (fun z hz => Go.Maps.keyOf_int_mk Try.underlying3 (by rcases hz with rfl | rfl <;> decide))
 generalize replyTo k0 = rk at *
 clear HDC hk h1 h2 h3
 go_enter Try.func27, Try.ntmps27
 go_wp2_with (first | (refine wpList_box_blk rfl 41 (.tmp 1) rfl m.cells.toArray rfl ?_; intro W1 hx1 hb1 hs1; have hk0 := (hb1.cell hlt).trans c0; have hk3 := (hb1.cell hlt).trans c3; have hk4 := (hb1.cell hlt).trans c4; have x0 := hx1.cell 0; have x1 := hx1.cell 1; have x2 := hx1.cell 2; have x3 := hx1.cell 3; unfold MV.cells at x0 x1 x2 x3; simp only [List.getElem?_toArray, List.getElem?_cons_zero, List.getElem?_cons_succ] at x0 x1 x2 x3; have y0 := (hb1.cell hbl).trans y0'; have y1 := (hb1.cell hbl).trans y1'; have HX1 := hide hx1; have HB1 := hide hb1; have HS1 := hide hs1; clear hx1 hb1 hs1))
 have key1 : (fun W => W.cell? ⟨g, 0, none⟩ = some (.int .i64 S.id) ∧ W.cell? ⟨g, 3, none⟩ = some (.int .i64 S.number) ∧ W.cell? ⟨g, 4, none⟩ = some (.pointer (some ⟨bk, 0, none⟩)) ∧ W.cell? ⟨w.heap.size, 1, none⟩ = some (.int .i64 m.group) ∧ W.cell? ⟨w.heap.size, 2, none⟩ = some (.int .i64 m.client) ∧ W.cell? ⟨w.heap.size, 3, none⟩ = some (.int .i64 m.number) ∧ W.cell? ⟨bk, 1, none⟩ = some (.int .i64 g0)) W1.drew := ⟨hk0, hk3, hk4, x1, x2, x3, y1⟩
 refine wp_region_held_drew (S := fun W => W.cell? ⟨g, 0, none⟩ = some (.int .i64 S.id) ∧ W.cell? ⟨g, 3, none⟩ = some (.int .i64 S.number) ∧ W.cell? ⟨g, 4, none⟩ = some (.pointer (some ⟨bk, 0, none⟩)) ∧ W.cell? ⟨w.heap.size, 1, none⟩ = some (.int .i64 m.group) ∧ W.cell? ⟨w.heap.size, 2, none⟩ = some (.int .i64 m.client) ∧ W.cell? ⟨w.heap.size, 3, none⟩ = some (.int .i64 m.number) ∧ W.cell? ⟨bk, 1, none⟩ = some (.int .i64 g0)) (by kernel_rfl) (key1) (fun hS0 => ?_)
 refine tk 0 ?_;refine tk 1 ?_;refine tk 2 ?_;refine tk 3 ?_;refine tk 4 ?_;refine tk 5 ?_;refine tk 6 ?_;refine tk 7 ?_;refine tk 8 ?_;refine tk 9 ?_;refine tk 10 ?_;refine tk 11 ?_;refine tk 12 ?_;refine tk 13 ?_;refine tk 14 ?_;refine tk 15 ?_;refine tk 16 ?_;refine tk 17 ?_;refine tk 18 ?_;refine tk 19 ?_;refine tk 20 ?_;refine tk 21 ?_;refine tk 22 ?_;refine tk 23 ?_;refine tk 24 ?_;refine tk 25 ?_;refine tk 26 ?_;refine tk 27 ?_;refine tk 28 ?_;refine tk 29 ?_;refine tk 30 ?_;refine tk 31 ?_;refine tk 32 ?_;refine tk 33 ?_;refine tk 34 ?_
 refine wpAnyH_done (by kernel_rfl) ?_ _
 go_wp2_with fail
 have key : (fun W => W.cell? ⟨w.heap.size, 0, none⟩ = some (.int .i64 m.kind) ∧ W.cell? ⟨g, 4, none⟩ = some (.pointer (some ⟨bk, 0, none⟩)) ∧ W.cell? ⟨bk, 0, none⟩ = some (.int .i64 k0)) W1.drew := ⟨x0, hk4, y0⟩
 have HBD : Hid (Below w.heap.size w W1.drew) := hide HB1.out.drew
 have HSZ : Hid (w.heap.size < W1.drew.heap.size ∧ g < w.heap.size ∧ bk < w.heap.size) := hide ⟨by show w.heap.size < W1.heap.size; rw [HS1.out]; exact Nat.lt_succ_self _, hlt, hbl⟩
 generalize W1.drew = W1 at *
 refine wp_region_held_drew (S := fun W => W.cell? ⟨w.heap.size, 0, none⟩ = some (.int .i64 m.kind) ∧ W.cell? ⟨g, 4, none⟩ = some (.pointer (some ⟨bk, 0, none⟩)) ∧ W.cell? ⟨bk, 0, none⟩ = some (.int .i64 k0)) (by kernel_rfl) (key) (fun hS0 => ?_)
 refine tk 0 ?_;refine tk 1 ?_;refine tk 6 ?_;refine tk 7 ?_;refine tk 8 ?_;refine tk 9 ?_;refine tk 10 ?_;refine tk 11 ?_;refine tk 12 ?_
 refine tr1 2 fun K hK => ?_
 refine step_makeMap rfl 111 rfl ?_
 intro W2 mb hmb hW2
 have hmbw : w.heap.size < mb := by rw [hmb]; exact HSZ.out.1
 have HMB : Hid (Go.World.ownsMap (H := Unit) W2 Try.prog 3 (plainElem Try.prog 3) mb 0 (.map [])) := hide (by rw [hW2, hmb]; exact Go.World.ownsMap_made W1.drew Try.prog 3 (plainElem (H := Unit) Try.prog 3))
 have HB2 : Hid (Below w.heap.size w W2) := hide (by rw [hW2]; exact HBD.out.drew.alloc (by show w.heap.size ≤ W1.heap.size; exact HBD.out.size) _)
 have HK2 : Hid ((fun W => W.cell? ⟨w.heap.size, 0, none⟩ = some (.int .i64 m.kind) ∧ W.cell? ⟨g, 4, none⟩ = some (.pointer (some ⟨bk, 0, none⟩)) ∧ W.cell? ⟨bk, 0, none⟩ = some (.int .i64 k0)) W2) := hide (by rw [hW2]; exact ⟨(World.cell?_alloc_lt _ _ _ HSZ.out.1).trans key.1, (World.cell?_alloc_lt _ _ _ (Nat.lt_trans HSZ.out.2.1 HSZ.out.1)).trans key.2.1, (World.cell?_alloc_lt _ _ _ (Nat.lt_trans HSZ.out.2.2 HSZ.out.1)).trans key.2.2⟩)
 have HZ2 : Hid (w.heap.size < W2.heap.size ∧ g < w.heap.size ∧ bk < w.heap.size) := hide (by rw [hW2, World.size_alloc]; exact ⟨Nat.lt_succ_of_lt HSZ.out.1, HSZ.out.2.1, HSZ.out.2.2⟩)
 have KEEP : Hid (∀ (X : World), Below w.heap.size w X → Touch [mb] W2 X → (fun W => W.cell? ⟨w.heap.size, 0, none⟩ = some (.int .i64 m.kind) ∧ W.cell? ⟨g, 4, none⟩ = some (.pointer (some ⟨bk, 0, none⟩)) ∧ W.cell? ⟨bk, 0, none⟩ = some (.int .i64 k0)) X) := hide (fun X _ k => ⟨(World.cell?_of_block (k.block w.heap.size HZ2.out.1 (by simp only [List.mem_singleton]; omega))).trans HK2.out.1, (World.cell?_of_block (k.block g (Nat.lt_trans HZ2.out.2.1 HZ2.out.1) (by have := HZ2.out; simp only [List.mem_singleton]; omega))).trans HK2.out.2.1, (World.cell?_of_block (k.block bk (Nat.lt_trans HZ2.out.2.2 HZ2.out.1) (by have := HZ2.out; simp only [List.mem_singleton]; omega))).trans HK2.out.2.2⟩)
 clear hmb hW2
 refine hK.out _ _ (HK2.out) (fun hS9 => ?_)
 clear hK K
 try simp only [Act.put, qa, qb, qc, qd, qe, qf]
 refine' have_tail1 (I := fun W => Go.World.ownsMap (H := Unit) W Try.prog 3 (plainElem Try.prog 3) mb 2 answD ∧ (fun W => W.cell? ⟨w.heap.size, 0, none⟩ = some (.int .i64 m.kind) ∧ W.cell? ⟨g, 4, none⟩ = some (.pointer (some ⟨bk, 0, none⟩)) ∧ W.cell? ⟨bk, 0, none⟩ = some (.int .i64 k0)) W ∧ Below w.heap.size w W) (fun tail => ?_) ?_
 rotate_left
 ·refine wpAnyH_ready (rs := [3, 4]) (by kernel_rfl) (by simp) ?_
  refine AllReadyH.cons rfl (fun K hK => ?_) (AllReadyH.cons rfl (fun K hK => ?_) AllReadyH.nil)
  ·refine step_insert (H := Unit) rfl (.tmp 42) (.const (.int .i64 1)) (.const (.int .i64 2)) 111 rfl 3 3 (Go.Maps.int_keyed Try.underlying3) Try.underlying111 (plainElem Try.prog 3) mb 0 (.map []) rfl HMB.out (by decide) (.int .i64 1) (.int .i64 2) (.int .i64 1) rfl rfl (HKY.out _ (by simp)) (.lit (.int .i64 2)) [] (plainElem_int Try.underlying3 rfl) ?_
   intro Wa how htu
   have HTA := hide htu;have HOA := hide how
   have HBA := hide (Below.touch HB2.out htu (by simp; omega) HB2.out.size)
   clear how htu
   refine hK.out _ _ (KEEP.out Wa HBA.out HTA.out) (fun _ => ?_)
   clear hK K
   try simp only [Act.put, qa, qb, qc, qd, qe, qf]
   refine tr1 4 fun K hK => ?_
   refine step_insert (H := Unit) rfl (.tmp 42) (.const (.int .i64 9)) (.const (.int .i64 10)) 111 rfl 3 3 (Go.Maps.int_keyed Try.underlying3) Try.underlying111 (plainElem Try.prog 3) mb 1 (.map [(.int .i64 1, .lit (.int .i64 2))]) rfl HOA.out (by decide) (.int .i64 9) (.int .i64 10) (.int .i64 9) rfl rfl (HKY.out _ (by simp)) (.lit (.int .i64 10)) [] (plainElem_int Try.underlying3 rfl) ?_
   intro Wb how htu
   have HTB := hide htu;have HOB := hide how
   have HBB := hide (Below.touch HBA.out htu (by simp; omega) HBA.out.size)
   clear how htu
   refine hK.out _ _ (KEEP.out Wb HBB.out (HTA.out.trans HTB.out)) (fun _ => ?_)
   clear hK K
   try simp only [Act.put, qa, qb, qc, qd, qe, qf]
   exact tail Wb ⟨HOB.out, KEEP.out Wb HBB.out (HTA.out.trans HTB.out), HBB.out⟩
  ·refine step_insert (H := Unit) rfl (.tmp 42) (.const (.int .i64 9)) (.const (.int .i64 10)) 111 rfl 3 3 (Go.Maps.int_keyed Try.underlying3) Try.underlying111 (plainElem Try.prog 3) mb 0 (.map []) rfl HMB.out (by decide) (.int .i64 9) (.int .i64 10) (.int .i64 9) rfl rfl (HKY.out _ (by simp)) (.lit (.int .i64 10)) [] (plainElem_int Try.underlying3 rfl) ?_
   intro Wa how htu
   have HTA := hide htu;have HOA := hide how
   have HBA := hide (Below.touch HB2.out htu (by simp; omega) HB2.out.size)
   clear how htu
   refine hK.out _ _ (KEEP.out Wa HBA.out HTA.out) (fun _ => ?_)
   clear hK K
   try simp only [Act.put, qa, qb, qc, qd, qe, qf]
   refine tr1 3 fun K hK => ?_
   refine step_insert (H := Unit) rfl (.tmp 42) (.const (.int .i64 1)) (.const (.int .i64 2)) 111 rfl 3 3 (Go.Maps.int_keyed Try.underlying3) Try.underlying111 (plainElem Try.prog 3) mb 1 (.map [(.int .i64 9, .lit (.int .i64 10))]) rfl HOA.out (by decide) (.int .i64 1) (.int .i64 2) (.int .i64 1) rfl rfl (HKY.out _ (by simp)) (.lit (.int .i64 2)) [] (plainElem_int Try.underlying3 rfl) ?_
   intro Wb how htu
   have HTB := hide htu;have HOB := hide how
   have HBB := hide (Below.touch HBA.out htu (by simp; omega) HBA.out.size)
   clear how htu
   refine hK.out _ _ (KEEP.out Wb HBB.out (HTA.out.trans HTB.out)) (fun _ => ?_)
   clear hK K
   try simp only [Act.put, qa, qb, qc, qd, qe, qf]
   exact tail Wb ⟨HOB.out, KEEP.out Wb HBB.out (HTA.out.trans HTB.out), HBB.out⟩
 rintro Wt ⟨hot, hkt, hbt⟩
 have HLR := HLK.out Wt mb hot;have HBT := hide hbt;clear hot hbt;refine tk 5 ?_
 refine tr1 13 fun K hK => ?_
 go_simp
 refine hK.out _ _ (hkt) (fun hS1 => ?_)
 clear hK K
 try simp only [Act.put, qa, qb, qc, qd, qe, qf]
 refine tk 14 ?_;refine tk 15 ?_
 refine wpAnyH_done (by kernel_rfl) ?_ _
 go_wp2_with fail
 go_ret
 exact ⟨rfl, HBT.out⟩
end
section
open Go.ChangeShapes Go.WideShapes Go.ChangeAt Go.RowKit
/-- What Receive leaves: the client, whether the request ends, the message to be sent. -/
structure RecV where
 st : CS
 ends : Bool
 out : Option (List Value)
/-- A list of at most one message. -/
def OutIn (w : World) (n : Nat) (v : Value) : Option (List Value) → Prop
 | none => v = .slice none 0 0
 | some cs => ∃ b, n ≤ b ∧ v = .slice (some ⟨b, 0, none⟩) 1 1 ∧ Blk w b 59 cs.toArray ∧ cs.length = 48
def RecR (w : World) (g : Nat) (r : RecV) (e : Ending) (w' : World) : Prop :=
 ∃ v, e = .returned (.tuple #[.bool r.ends, v]) ∧ OutIn w' w.heap.size v r.out ∧ (∃ q, Cl w' g r.st q) ∧ Touch [g] w w'
/-- Behind a message that answers the open request. -/
def cAnswered (S : CS) (cs : List Value) (m : MV) (frm : Int) : RecV :=
 if m.code = 0 ∨ m.code = 1 then ⟨{ S with opened := none }, true, none⟩
 else if m.code = 17 ∧ m.kind = 2 ∧ 0 < m.leader ∧ 1 ≤ m.leader.tmod 100 ∧ m.leader.tmod 100 ≤ S.machines ∧ m.leader.tmod 100 ≠ frm then ⟨{ S with target := m.leader.tmod 100 }, false, some (.int .i64 (m.leader.tmod 100) :: cs)⟩
 else ⟨S, false, none⟩
theorem rec_same {w w' : World} {g : Nat} {S : CS} {p : Value} (h : Cl w g S p) (hb : Below w.heap.size w w') : RecR w g ⟨S, false, none⟩ (.returned (.tuple #[.bool false, .slice none 0 0])) w' :=
 ⟨_, rfl, rfl, ⟨p, h.step hb⟩, Touch.below hb _⟩
theorem cl_shut {w : World} {g : Nat} {S : CS} {p : Value} (h : Cl w g S p) : Cl (w.setCell ⟨g, 4, none⟩ (.pointer none)) g { S with opened := none } (.pointer none) :=
 ⟨h.blk.put 4 _, ⟨h.ok.id, h.ok.machines, h.ok.target, h.ok.number, fun cs hc => by cases hc⟩, fun _ => rfl, fun cs hc => by cases hc⟩
theorem cl_target {w : World} {g : Nat} {S : CS} {p : Value} {t : Int} (h : Cl w g S p) (h1 : 1 ≤ t) (h2 : t ≤ S.machines) : Cl (w.setCell ⟨g, 2, none⟩ (.int .i64 t)) g { S with target := t } p :=
 ⟨h.blk.put 2 _, ⟨h.ok.id, h.ok.machines, ⟨h1, h2⟩, h.ok.number, h.ok.opened⟩, h.shut, fun cs hc => by obtain ⟨b, q1, q2, q3⟩ := h.opened cs hc; exact ⟨b, q1, q2, q3.far q1 _⟩⟩
theorem fill_one (Z : Array Value) (hZ : Z.size = 48) (cs : List Value) (h : cs.length = 48) (place : Nat → Option (Nat × Nat)) (p0 : place 0 = some (0, 48)) :
 Instr.fill place Z [(0, .agg cs.toArray)] = some cs.toArray := by
 have e2 : (Value.agg cs.toArray).cells = cs.toArray := rfl
 simp only [Instr.fill, p0, e2]
 have f1 := Go.Great.foldl_set 0 cs 0 Z
 generalize hz2 : ((cs.toArray.zipIdx).foldl (fun cs (x : Value × Nat) => cs.setIfInBounds (0 + x.2) x.1) Z) = Z2
 have hz2' : ((cs.zipIdx 0).foldl (fun cs (x : Value × Nat) => cs.setIfInBounds (0 + x.2) x.1) Z) = Z2 := by rw [← hz2]; simp
 rw [hz2'] at f1
 rw [if_neg (by simp [hZ, h])]
 congr 1
 apply Array.ext_getElem?
 intro i
 rw [f1.2 i]
 by_cases hj : i < 48
 ·rw [if_pos (by rw [hZ]; omega)]
  simp
 ·rw [if_neg (by omega), Array.getElem?_eq_none (by rw [hZ]; omega), Array.getElem?_eq_none (by simp; omega)]
theorem slice_one (cs : List Value) (h : cs.length = 48) : Try.prog.builtSlice 59 1 [(0, .agg cs.toArray)] = some cs.toArray := by
 obtain ⟨i0, hi0, hz⟩ := Option.map_eq_some_iff.mp info_out
 have hz0 : i0.zero = some (.agg (zi :: zmsg).toArray) := congrArg Prod.fst hz
 have hz1 : i0.size = 48 := congrArg Prod.snd hz
 obtain ⟨z, sz⟩ : ∃ z : Value, z = .agg (zi :: zmsg).toArray := ⟨_, rfl⟩
 rw [← sz] at hz0
 have hf : Instr.fill (fun i => some (i * i0.size, i0.size)) ((Array.range (1 * i0.size)).map (z.cells[· % z.cells.size]!)) [(0, .agg cs.toArray)] = some cs.toArray :=
  fill_one _ (by rw [Array.size_map, Array.size_range, hz1]) cs h _ (by rw [hz1])
 have hn : ¬ (1 * i0.size > 2 ^ 24 ∨ 1 * i0.size = 0) := by rw [hz1]; omega
 unfold Program.builtSlice
 rw [hi0]
 dsimp only
 rw [hz0]
 dsimp only
 rw [if_neg hn]
 exact hf
set_option maxRecDepth 100000 in
set_option maxHeartbeats 1000000 in
theorem recv_no (g : Nat) (S : CS) (p : Value) (frm : Int) (m : MV) (w : World) (h : Cl w g S p) (hm : m.Ok) (hA : ∀ X, Below w.heap.size w X → Calls Try.prog 27 #[.pointer (some ⟨g, 0, none⟩), .agg m.cells.toArray] X (AnsR X false)) :
 Calls Try.prog 16 #[.pointer (some ⟨g, 0, none⟩), .int .i64 frm, .agg m.cells.toArray] w (RecR w g ⟨S, false, none⟩) := by
 have HC := hide h;clear h
 go_enter Try.func16, Try.ntmps16
 go_wp2_with (first | (refine wpList_box_blk rfl 41 (.tmp 2) rfl m.cells.toArray rfl ?_; intro W1 hx1 hb1 hs1; have HX1 := hide hx1; have HB1 := hide hb1; have HS1 := hide hs1; clear hx1 hb1 hs1) | (refine wpList_load_blk rfl 41 (.tmp 5) rfl w.heap.size 41 m.cells.toArray _ rfl HX1.out Try.underlying41 rfl (size_msg hm.size) ?_))
 refine (hA W1 HB1.out).mono ?_
 rintro e W2 ⟨rfl, hb2⟩
 have HX2 := hide (HX1.out.step hb2)
 have HB2 := hide (HB1.out.trans (hb2.mono HB1.out.size))
 clear hb2
 go_wp2_with fail
 refine bodyPost_ret (v := .tuple #[.bool false, .slice none 0 0]) (by simp [results, Try.results16, go_sem]) rfl ?_
 exact rec_same HC.out HB2.out
set_option maxRecDepth 100000 in
set_option maxHeartbeats 1000000 in
theorem recv_end (g : Nat) (S : CS) (p : Value) (frm : Int) (m : MV) (w : World) (h : Cl w g S p) (hm : m.Ok) (hA : ∀ X, Below w.heap.size w X → Calls Try.prog 27 #[.pointer (some ⟨g, 0, none⟩), .agg m.cells.toArray] X (AnsR X true)) (hc : m.code = 0 ∨ m.code = 1) :
 Calls Try.prog 16 #[.pointer (some ⟨g, 0, none⟩), .int .i64 frm, .agg m.cells.toArray] w (RecR w g ⟨{ S with opened := none }, true, none⟩) := by
 have HC := hide h;clear h
 go_enter Try.func16, Try.ntmps16
 go_wp2_with (first | (refine wpList_box_blk rfl 41 (.tmp 2) rfl m.cells.toArray rfl ?_; intro W1 hx1 hb1 hs1; have HX1 := hide hx1; have HB1 := hide hb1; have HS1 := hide hs1; clear hx1 hb1 hs1) | (refine wpList_load_blk rfl 41 (.tmp 5) rfl w.heap.size 41 m.cells.toArray _ rfl HX1.out Try.underlying41 rfl (size_msg hm.size) ?_))
 refine (hA W1 HB1.out).mono ?_
 rintro e W2 ⟨rfl, hb2⟩
 have HX2 := hide (HX1.out.step hb2)
 have HB2 := hide (HB1.out.trans (hb2.mono HB1.out.size))
 clear hb2;have x0 := HX2.out.cell 0;have x4 := HX2.out.cell 4;have x6 := HX2.out.cell 6
 unfold MV.cells at x0 x4 x6
 simp only [List.getElem?_toArray, List.getElem?_cons_zero, List.getElem?_cons_succ] at x0 x4 x6
 have HCW := hide (HC.out.step HB2.out)
 have k1 := HCW.out.cells.2.1;have kf2 := HCW.out.cells.2.2.2.2.2.2.2.1;have kf4 := HCW.out.cells.2.2.2.2.2.2.2.2.2;have kc4 := HCW.out.cells.2.2.2.2.1;have kc2 := HCW.out.cells.2.2.1;clear hA
 have HEND : Hid (RecR w g ⟨{ S with opened := none }, true, none⟩ (.returned (.tuple #[.bool true, .slice none 0 0])) (W2.setCell ⟨g, 4, none⟩ (.pointer none))) := hide ⟨_, rfl, rfl, ⟨_, cl_shut HCW.out⟩, (Touch.below HB2.out [g]).set (by simp) 4 _⟩
 rcases hc with hc | hc
 ·go_wp2_with fail
  refine bodyPost_ret (v := .tuple #[.bool true, .slice none 0 0]) (by simp [results, Try.results16, go_sem]) rfl ?_
  exact HEND.out
 ·go_wp2_with fail
  refine bodyPost_ret (v := .tuple #[.bool true, .slice none 0 0]) (by simp [results, Try.results16, go_sem]) rfl ?_
  exact HEND.out
set_option maxRecDepth 100000 in
set_option maxHeartbeats 1000000 in
theorem recv_other (g : Nat) (S : CS) (p : Value) (frm : Int) (m : MV) (w : World) (h : Cl w g S p) (hm : m.Ok) (hA : ∀ X, Below w.heap.size w X → Calls Try.prog 27 #[.pointer (some ⟨g, 0, none⟩), .agg m.cells.toArray] X (AnsR X true)) (hc0 : ¬ m.code = 0) (hc1 : ¬ m.code = 1) (hc2 : ¬ m.code = 17) :
 Calls Try.prog 16 #[.pointer (some ⟨g, 0, none⟩), .int .i64 frm, .agg m.cells.toArray] w (RecR w g ⟨S, false, none⟩) := by
 have HC := hide h;clear h
 go_enter Try.func16, Try.ntmps16
 go_wp2_with (first | (refine wpList_box_blk rfl 41 (.tmp 2) rfl m.cells.toArray rfl ?_; intro W1 hx1 hb1 hs1; have HX1 := hide hx1; have HB1 := hide hb1; have HS1 := hide hs1; clear hx1 hb1 hs1) | (refine wpList_load_blk rfl 41 (.tmp 5) rfl w.heap.size 41 m.cells.toArray _ rfl HX1.out Try.underlying41 rfl (size_msg hm.size) ?_))
 refine (hA W1 HB1.out).mono ?_
 rintro e W2 ⟨rfl, hb2⟩
 have HX2 := hide (HX1.out.step hb2)
 have HB2 := hide (HB1.out.trans (hb2.mono HB1.out.size))
 clear hb2;have x0 := HX2.out.cell 0;have x4 := HX2.out.cell 4;have x6 := HX2.out.cell 6
 unfold MV.cells at x0 x4 x6
 simp only [List.getElem?_toArray, List.getElem?_cons_zero, List.getElem?_cons_succ] at x0 x4 x6
 have HCW := hide (HC.out.step HB2.out)
 have k1 := HCW.out.cells.2.1;have kf2 := HCW.out.cells.2.2.2.2.2.2.2.1;have kf4 := HCW.out.cells.2.2.2.2.2.2.2.2.2;have kc4 := HCW.out.cells.2.2.2.2.1;have kc2 := HCW.out.cells.2.2.1;clear hA
 go_wp2_with fail
 refine bodyPost_ret (v := .tuple #[.bool false, .slice none 0 0]) (by simp [results, Try.results16, go_sem]) rfl ?_
 exact rec_same HC.out HB2.out
set_option maxRecDepth 100000 in
set_option maxHeartbeats 1000000 in
theorem recv_kind (g : Nat) (S : CS) (p : Value) (frm : Int) (m : MV) (w : World) (h : Cl w g S p) (hm : m.Ok) (hA : ∀ X, Below w.heap.size w X → Calls Try.prog 27 #[.pointer (some ⟨g, 0, none⟩), .agg m.cells.toArray] X (AnsR X true)) (hc : m.code = 17) (hk : ¬ m.kind = 2) :
 Calls Try.prog 16 #[.pointer (some ⟨g, 0, none⟩), .int .i64 frm, .agg m.cells.toArray] w (RecR w g ⟨S, false, none⟩) := by
 have HC := hide h;clear h
 go_enter Try.func16, Try.ntmps16
 go_wp2_with (first | (refine wpList_box_blk rfl 41 (.tmp 2) rfl m.cells.toArray rfl ?_; intro W1 hx1 hb1 hs1; have HX1 := hide hx1; have HB1 := hide hb1; have HS1 := hide hs1; clear hx1 hb1 hs1) | (refine wpList_load_blk rfl 41 (.tmp 5) rfl w.heap.size 41 m.cells.toArray _ rfl HX1.out Try.underlying41 rfl (size_msg hm.size) ?_))
 refine (hA W1 HB1.out).mono ?_
 rintro e W2 ⟨rfl, hb2⟩
 have HX2 := hide (HX1.out.step hb2)
 have HB2 := hide (HB1.out.trans (hb2.mono HB1.out.size))
 clear hb2;have x0 := HX2.out.cell 0;have x4 := HX2.out.cell 4;have x6 := HX2.out.cell 6
 unfold MV.cells at x0 x4 x6
 simp only [List.getElem?_toArray, List.getElem?_cons_zero, List.getElem?_cons_succ] at x0 x4 x6
 have HCW := hide (HC.out.step HB2.out)
 have k1 := HCW.out.cells.2.1;have kf2 := HCW.out.cells.2.2.2.2.2.2.2.1;have kf4 := HCW.out.cells.2.2.2.2.2.2.2.2.2;have kc4 := HCW.out.cells.2.2.2.2.1;have kc2 := HCW.out.cells.2.2.1;clear hA
 generalize ht : m.leader.tmod 100 = t at *
 have hc0 : ¬ m.code = 0 := by omega
 have hc1 : ¬ m.code = 1 := by omega
 have hd : (m.kind == 2) = false := by simpa using hk
 go_wp2_with fail
 refine bodyPost_ret (v := .tuple #[.bool false, .slice none 0 0]) (by simp [results, Try.results16, go_sem]) rfl ?_
 exact rec_same HC.out HB2.out
set_option maxRecDepth 100000 in
set_option maxHeartbeats 1000000 in
theorem recv_leader (g : Nat) (S : CS) (p : Value) (frm : Int) (m : MV) (w : World) (h : Cl w g S p) (hm : m.Ok) (hA : ∀ X, Below w.heap.size w X → Calls Try.prog 27 #[.pointer (some ⟨g, 0, none⟩), .agg m.cells.toArray] X (AnsR X true)) (hc : m.code = 17) (hk : m.kind = 2) (hl : ¬ 0 < m.leader) :
 Calls Try.prog 16 #[.pointer (some ⟨g, 0, none⟩), .int .i64 frm, .agg m.cells.toArray] w (RecR w g ⟨S, false, none⟩) := by
 have HC := hide h;clear h
 go_enter Try.func16, Try.ntmps16
 go_wp2_with (first | (refine wpList_box_blk rfl 41 (.tmp 2) rfl m.cells.toArray rfl ?_; intro W1 hx1 hb1 hs1; have HX1 := hide hx1; have HB1 := hide hb1; have HS1 := hide hs1; clear hx1 hb1 hs1) | (refine wpList_load_blk rfl 41 (.tmp 5) rfl w.heap.size 41 m.cells.toArray _ rfl HX1.out Try.underlying41 rfl (size_msg hm.size) ?_))
 refine (hA W1 HB1.out).mono ?_
 rintro e W2 ⟨rfl, hb2⟩
 have HX2 := hide (HX1.out.step hb2)
 have HB2 := hide (HB1.out.trans (hb2.mono HB1.out.size))
 clear hb2;have x0 := HX2.out.cell 0;have x4 := HX2.out.cell 4;have x6 := HX2.out.cell 6
 unfold MV.cells at x0 x4 x6
 simp only [List.getElem?_toArray, List.getElem?_cons_zero, List.getElem?_cons_succ] at x0 x4 x6
 have HCW := hide (HC.out.step HB2.out)
 have k1 := HCW.out.cells.2.1;have kf2 := HCW.out.cells.2.2.2.2.2.2.2.1;have kf4 := HCW.out.cells.2.2.2.2.2.2.2.2.2;have kc4 := HCW.out.cells.2.2.2.2.1;have kc2 := HCW.out.cells.2.2.1;clear hA
 generalize ht : m.leader.tmod 100 = t at *
 have hc0 : ¬ m.code = 0 := by omega
 have hc1 : ¬ m.code = 1 := by omega
 have hd : (m.kind == 2) = true := by simpa using hk
 have hd2 : decide (0 < m.leader) = false := by simpa using hl
 go_wp2_with fail
 refine bodyPost_ret (v := .tuple #[.bool false, .slice none 0 0]) (by simp [results, Try.results16, go_sem]) rfl ?_
 exact rec_same HC.out HB2.out
set_option maxRecDepth 100000 in
set_option maxHeartbeats 1000000 in
theorem recv_least (g : Nat) (S : CS) (p : Value) (frm : Int) (m : MV) (w : World) (h : Cl w g S p) (hm : m.Ok) (hA : ∀ X, Below w.heap.size w X → Calls Try.prog 27 #[.pointer (some ⟨g, 0, none⟩), .agg m.cells.toArray] X (AnsR X true)) (hc : m.code = 17) (hk : m.kind = 2) (hl : 0 < m.leader) (h1 : ¬ 1 ≤ m.leader.tmod 100) :
 Calls Try.prog 16 #[.pointer (some ⟨g, 0, none⟩), .int .i64 frm, .agg m.cells.toArray] w (RecR w g ⟨S, false, none⟩) := by
 have HC := hide h;clear h
 go_enter Try.func16, Try.ntmps16
 go_wp2_with (first | (refine wpList_box_blk rfl 41 (.tmp 2) rfl m.cells.toArray rfl ?_; intro W1 hx1 hb1 hs1; have HX1 := hide hx1; have HB1 := hide hb1; have HS1 := hide hs1; clear hx1 hb1 hs1) | (refine wpList_load_blk rfl 41 (.tmp 5) rfl w.heap.size 41 m.cells.toArray _ rfl HX1.out Try.underlying41 rfl (size_msg hm.size) ?_))
 refine (hA W1 HB1.out).mono ?_
 rintro e W2 ⟨rfl, hb2⟩
 have HX2 := hide (HX1.out.step hb2)
 have HB2 := hide (HB1.out.trans (hb2.mono HB1.out.size))
 clear hb2;have x0 := HX2.out.cell 0;have x4 := HX2.out.cell 4;have x6 := HX2.out.cell 6
 unfold MV.cells at x0 x4 x6
 simp only [List.getElem?_toArray, List.getElem?_cons_zero, List.getElem?_cons_succ] at x0 x4 x6
 have HCW := hide (HC.out.step HB2.out)
 have k1 := HCW.out.cells.2.1;have kf2 := HCW.out.cells.2.2.2.2.2.2.2.1;have kf4 := HCW.out.cells.2.2.2.2.2.2.2.2.2;have kc4 := HCW.out.cells.2.2.2.2.1;have kc2 := HCW.out.cells.2.2.1;clear hA
 generalize ht : m.leader.tmod 100 = t at *
 have hc0 : ¬ m.code = 0 := by omega
 have hc1 : ¬ m.code = 1 := by omega
 have hd : (m.kind == 2) = true := by simpa using hk
 have hd3 : decide (1 ≤ t) = false := by simpa using h1
 have ht2 : m.leader % 100 = t := by rw [← ht]; exact (Int.tmod_eq_emod_of_nonneg (by omega)).symm
 go_wp2_with fail
 refine bodyPost_ret (v := .tuple #[.bool false, .slice none 0 0]) (by simp [results, Try.results16, go_sem]) rfl ?_
 exact rec_same HC.out HB2.out
set_option maxRecDepth 100000 in
set_option maxHeartbeats 1000000 in
theorem recv_most (g : Nat) (S : CS) (p : Value) (frm : Int) (m : MV) (w : World) (h : Cl w g S p) (hm : m.Ok) (hA : ∀ X, Below w.heap.size w X → Calls Try.prog 27 #[.pointer (some ⟨g, 0, none⟩), .agg m.cells.toArray] X (AnsR X true)) (hc : m.code = 17) (hk : m.kind = 2) (hl : 0 < m.leader) (h1 : 1 ≤ m.leader.tmod 100) (h2 : ¬ m.leader.tmod 100 ≤ S.machines) :
 Calls Try.prog 16 #[.pointer (some ⟨g, 0, none⟩), .int .i64 frm, .agg m.cells.toArray] w (RecR w g ⟨S, false, none⟩) := by
 have HC := hide h;clear h
 go_enter Try.func16, Try.ntmps16
 go_wp2_with (first | (refine wpList_box_blk rfl 41 (.tmp 2) rfl m.cells.toArray rfl ?_; intro W1 hx1 hb1 hs1; have HX1 := hide hx1; have HB1 := hide hb1; have HS1 := hide hs1; clear hx1 hb1 hs1) | (refine wpList_load_blk rfl 41 (.tmp 5) rfl w.heap.size 41 m.cells.toArray _ rfl HX1.out Try.underlying41 rfl (size_msg hm.size) ?_))
 refine (hA W1 HB1.out).mono ?_
 rintro e W2 ⟨rfl, hb2⟩
 have HX2 := hide (HX1.out.step hb2)
 have HB2 := hide (HB1.out.trans (hb2.mono HB1.out.size))
 clear hb2;have x0 := HX2.out.cell 0;have x4 := HX2.out.cell 4;have x6 := HX2.out.cell 6
 unfold MV.cells at x0 x4 x6
 simp only [List.getElem?_toArray, List.getElem?_cons_zero, List.getElem?_cons_succ] at x0 x4 x6
 have HCW := hide (HC.out.step HB2.out)
 have k1 := HCW.out.cells.2.1;have kf2 := HCW.out.cells.2.2.2.2.2.2.2.1;have kf4 := HCW.out.cells.2.2.2.2.2.2.2.2.2;have kc4 := HCW.out.cells.2.2.2.2.1;have kc2 := HCW.out.cells.2.2.1;clear hA
 generalize ht : m.leader.tmod 100 = t at *
 have hc0 : ¬ m.code = 0 := by omega
 have hc1 : ¬ m.code = 1 := by omega
 have hd : (m.kind == 2) = true := by simpa using hk
 have hd4 : decide (t ≤ S.machines) = false := by simpa using h2
 have ht2 : m.leader % 100 = t := by rw [← ht]; exact (Int.tmod_eq_emod_of_nonneg (by omega)).symm
 go_wp2_with fail
 refine bodyPost_ret (v := .tuple #[.bool false, .slice none 0 0]) (by simp [results, Try.results16, go_sem]) rfl ?_
 exact rec_same HC.out HB2.out
set_option maxRecDepth 100000 in
set_option maxHeartbeats 1000000 in
theorem recv_from (g : Nat) (S : CS) (p : Value) (frm : Int) (m : MV) (w : World) (h : Cl w g S p) (hm : m.Ok) (hA : ∀ X, Below w.heap.size w X → Calls Try.prog 27 #[.pointer (some ⟨g, 0, none⟩), .agg m.cells.toArray] X (AnsR X true)) (hc : m.code = 17) (hk : m.kind = 2) (hl : 0 < m.leader) (h1 : 1 ≤ m.leader.tmod 100) (h2 : m.leader.tmod 100 ≤ S.machines) (h3 : m.leader.tmod 100 = frm) :
 Calls Try.prog 16 #[.pointer (some ⟨g, 0, none⟩), .int .i64 frm, .agg m.cells.toArray] w (RecR w g ⟨S, false, none⟩) := by
 have HC := hide h;clear h
 go_enter Try.func16, Try.ntmps16
 go_wp2_with (first | (refine wpList_box_blk rfl 41 (.tmp 2) rfl m.cells.toArray rfl ?_; intro W1 hx1 hb1 hs1; have HX1 := hide hx1; have HB1 := hide hb1; have HS1 := hide hs1; clear hx1 hb1 hs1) | (refine wpList_load_blk rfl 41 (.tmp 5) rfl w.heap.size 41 m.cells.toArray _ rfl HX1.out Try.underlying41 rfl (size_msg hm.size) ?_))
 refine (hA W1 HB1.out).mono ?_
 rintro e W2 ⟨rfl, hb2⟩
 have HX2 := hide (HX1.out.step hb2)
 have HB2 := hide (HB1.out.trans (hb2.mono HB1.out.size))
 clear hb2;have x0 := HX2.out.cell 0;have x4 := HX2.out.cell 4;have x6 := HX2.out.cell 6
 unfold MV.cells at x0 x4 x6
 simp only [List.getElem?_toArray, List.getElem?_cons_zero, List.getElem?_cons_succ] at x0 x4 x6
 have HCW := hide (HC.out.step HB2.out)
 have k1 := HCW.out.cells.2.1;have kf2 := HCW.out.cells.2.2.2.2.2.2.2.1;have kf4 := HCW.out.cells.2.2.2.2.2.2.2.2.2;have kc4 := HCW.out.cells.2.2.2.2.1;have kc2 := HCW.out.cells.2.2.1;clear hA
 generalize ht : m.leader.tmod 100 = t at *
 have hc0 : ¬ m.code = 0 := by omega
 have hc1 : ¬ m.code = 1 := by omega
 have hd : (m.kind == 2) = true := by simpa using hk
 have hd5 : (t != frm) = false := by simpa using h3
 have ht2 : m.leader % 100 = t := by rw [← ht]; exact (Int.tmod_eq_emod_of_nonneg (by omega)).symm
 go_wp2_with fail
 refine bodyPost_ret (v := .tuple #[.bool false, .slice none 0 0]) (by simp [results, Try.results16, go_sem]) rfl ?_
 exact rec_same HC.out HB2.out
set_option maxRecDepth 100000 in
set_option maxHeartbeats 1000000 in
theorem recv_go (g : Nat) (S : CS) (p : Value) (frm : Int) (m : MV) (w : World) (h : Cl w g S p) (hm : m.Ok) (hA : ∀ X, Below w.heap.size w X → Calls Try.prog 27 #[.pointer (some ⟨g, 0, none⟩), .agg m.cells.toArray] X (AnsR X true)) (cs : List Value) (ho : S.opened = some cs) (hc : m.code = 17) (hk : m.kind = 2) (hl : 0 < m.leader) (h1 : 1 ≤ m.leader.tmod 100) (h2 : m.leader.tmod 100 ≤ S.machines) (h3 : ¬ m.leader.tmod 100 = frm) :
 Calls Try.prog 16 #[.pointer (some ⟨g, 0, none⟩), .int .i64 frm, .agg m.cells.toArray] w (RecR w g ⟨{ S with target := m.leader.tmod 100 }, false, some (.int .i64 (m.leader.tmod 100) :: cs)⟩) := by
 have HC := hide h;clear h
 go_enter Try.func16, Try.ntmps16
 go_wp2_with (first | (refine wpList_box_blk rfl 41 (.tmp 2) rfl m.cells.toArray rfl ?_; intro W1 hx1 hb1 hs1; have HX1 := hide hx1; have HB1 := hide hb1; have HS1 := hide hs1; clear hx1 hb1 hs1) | (refine wpList_load_blk rfl 41 (.tmp 5) rfl w.heap.size 41 m.cells.toArray _ rfl HX1.out Try.underlying41 rfl (size_msg hm.size) ?_))
 refine (hA W1 HB1.out).mono ?_
 rintro e W2 ⟨rfl, hb2⟩
 have HX2 := hide (HX1.out.step hb2)
 have HB2 := hide (HB1.out.trans (hb2.mono HB1.out.size))
 clear hb2;have x0 := HX2.out.cell 0;have x4 := HX2.out.cell 4;have x6 := HX2.out.cell 6
 unfold MV.cells at x0 x4 x6
 simp only [List.getElem?_toArray, List.getElem?_cons_zero, List.getElem?_cons_succ] at x0 x4 x6
 have HCW := hide (HC.out.step HB2.out)
 have k1 := HCW.out.cells.2.1;have kf2 := HCW.out.cells.2.2.2.2.2.2.2.1;have kf4 := HCW.out.cells.2.2.2.2.2.2.2.2.2;have kc4 := HCW.out.cells.2.2.2.2.1;have kc2 := HCW.out.cells.2.2.1;clear hA
 generalize ht : m.leader.tmod 100 = t at *
 have hc0 : ¬ m.code = 0 := by omega
 have hc1 : ¬ m.code = 1 := by omega
 obtain ⟨b0, hb0, rfl, hbm⟩ := HCW.out.opened cs ho
 have HBM := hide hbm
 have hl' := (HCW.out.ok.opened cs ho).1
 have hone := (HCW.out.ok.opened cs ho).2
 have HO := hide ho;clear hbm ho
 have hd : (m.kind == 2) = true := by simpa using hk
 have hd5 : (t != frm) = true := by simpa using h3
 have ht2 : m.leader % 100 = t := by rw [← ht]; exact (Int.tmod_eq_emod_of_nonneg (by omega)).symm
 have HT := hide (cl_target HCW.out h1 h2)
 have HBD := hide HB2.out
 go_wp2_with fail
 have HSND := hide (send_c g _ _ cs _ HT.out HO.out)
 refine HSND.out.mono ?_
 rintro e W5 ⟨rfl, hb5⟩
 have HT5 := hide (HT.out.step hb5)
 have HB5 := hide (((Touch.below HBD.out [g]).set (by simp) 2 (.int .i64 t)).step hb5)
 have HON : Hid ((Value.int .i64 t :: cs).length = 48) := hide (by rw [List.length_cons, hl'])
 clear hb5 HSND HT
 obtain ⟨os, hos⟩ : ∃ os, os = (Value.int .i64 t :: cs) := ⟨_, rfl⟩
 dsimp only
 rw [← hos] at HON ⊢
 go_wp2_with (first | (refine Go.Great.wpList_buildSliceTo rfl 53 59 1 #[(0, .tmp 56)] rfl W5.heap.size rfl _ rfl Try.underlying53 os.toArray (by simpa [Act.eval] using slice_one os HON.out) ?_))
 refine bodyPost_ret (v := .tuple #[.bool false, .slice (some ⟨W5.heap.size, 0, none⟩) 1 1]) (by simp [results, Try.results16, go_sem]) rfl ?_
 subst hos
 exact ⟨_, rfl, ⟨W5.heap.size, HB5.out.size, rfl, Blk.new _ _ _, HON.out⟩, ⟨_, HT5.out.step ((Below.refl _ _).alloc (Nat.le_refl _) _)⟩, HB5.out.alloc _⟩
/-- Receive, where a request of the client is open. -/
theorem recv_c (g : Nat) (S : CS) (p : Value) (frm : Int) (m : MV) (w : World) (h : Cl w g S p) (hm : m.Ok) (k0 g0 : Int) (rs : List Value) (ho : S.opened = some (.int .i64 k0 :: .int .i64 g0 :: rs)) (hk : k0 = 1 ∨ k0 = 9) :
 Calls Try.prog 16 #[.pointer (some ⟨g, 0, none⟩), .int .i64 frm, .agg m.cells.toArray] w (RecR w g (if answersB S k0 g0 m = true then cAnswered S (.int .i64 k0 :: .int .i64 g0 :: rs) m frm else ⟨S, false, none⟩)) := by
 have hA : ∀ X, Below w.heap.size w X → Calls Try.prog 27 #[.pointer (some ⟨g, 0, none⟩), .agg m.cells.toArray] X (AnsR X (answersB S k0 g0 m)) := fun X k => answers_c g S p m X (h.step k) k0 g0 rs ho hk
 cases hB : answersB S k0 g0 m with
 | false =>
  rw [hB] at hA
  rw [if_neg (by simp)]
  exact recv_no g S p frm m w h hm hA
 | true =>
  rw [hB] at hA
  rw [if_pos rfl]
  unfold cAnswered
  by_cases h1 : m.code = 0 ∨ m.code = 1
  ·rw [if_pos h1]; exact recv_end g S p frm m w h hm hA h1
  rw [if_neg h1]
  by_cases h2 : m.code = 17 ∧ m.kind = 2 ∧ 0 < m.leader ∧ 1 ≤ m.leader.tmod 100 ∧ m.leader.tmod 100 ≤ S.machines ∧ m.leader.tmod 100 ≠ frm
  ·rw [if_pos h2]
   obtain ⟨a1, a2, a3, a4, a5, a6⟩ := h2
   exact recv_go g S p frm m w h hm hA _ ho a1 a2 a3 a4 a5 a6
  rw [if_neg h2]
  by_cases a1 : m.code = 17
  ·by_cases a2 : m.kind = 2
   ·by_cases a3 : 0 < m.leader
    ·by_cases a4 : 1 ≤ m.leader.tmod 100
     ·by_cases a5 : m.leader.tmod 100 ≤ S.machines
      ·by_cases a6 : m.leader.tmod 100 = frm
       ·exact recv_from g S p frm m w h hm hA a1 a2 a3 a4 a5 a6
       ·exact absurd ⟨a1, a2, a3, a4, a5, a6⟩ h2
      ·exact recv_most g S p frm m w h hm hA a1 a2 a3 a4 a5
     ·exact recv_least g S p frm m w h hm hA a1 a2 a3 a4
    ·exact recv_leader g S p frm m w h hm hA a1 a2 a3
   ·exact recv_kind g S p frm m w h hm hA a1 a2
  ·exact recv_other g S p frm m w h hm hA (fun e => h1 (.inl e)) (fun e => h1 (.inr e)) a1
end
section
open Go.ChangeShapes Go.WideShapes Go.ChangeAt Go.RowKit
theorem opens_req (S : CS) (k g a c : Int) (b : ByteArray) (v : Int) : opens S (req k g a c b v) = req k g S.id (S.number + 1) b v := rfl
def bx : ByteArray := ⟨#[120]⟩
/-- The client of the example behind its first request. -/
def sA : CS := ⟨3, 2, 1, 1, some (req 1 1 3 1 bx 0)⟩
def sB : CS := ⟨3, 2, 2, 1, some (req 1 1 3 1 bx 0)⟩
def sC : CS := ⟨3, 2, 1, 1, none⟩
theorem ask_awake : cRequest (csNew 3 2) 1 bx = ⟨sA, .int .i64 1 :: req 1 1 3 1 bx 0, 0⟩ := by
 unfold cRequest
 rw [if_neg (by simp [csNew]), if_neg (by omega), if_neg (by decide)]
 rw [opens_req]
 unfold opened
 rw [opens_req]
 rfl
theorem ret_awake : cRetry sA = ⟨sB, .int .i64 2 :: req 1 1 3 1 bx 0, true⟩ := rfl
def mA : MV := ⟨2, 1, 3, 1, 17, ⟨#[]⟩, 101, zmsg.drop 7⟩
def mB : MV := ⟨2, 1, 3, 1, 0, ⟨#[]⟩, 0, zmsg.drop 7⟩
theorem mA_ok : mA.Ok := ⟨rfl, by simp [mA, zmsg, Value.oneCell'], by decide⟩
theorem mB_ok : mB.Ok := ⟨rfl, by simp [mB, zmsg, Value.oneCell'], by decide⟩
theorem built_mA : Try.prog.built 41 [(0, .int .i64 2), (1, .int .i64 1), (2, .int .i64 3), (3, .int .i64 1), (4, .int .i64 17), (6, .int .i64 101)] = some mA.cells.toArray := by kernel_rfl
theorem recA (g : Nat) (p : Value) (w : World) (h : Cl w g sB p) :
 Calls Try.prog 16 #[.pointer (some ⟨g, 0, none⟩), .int .i64 2, .agg mA.cells.toArray] w (RecR w g ⟨sA, false, some (.int .i64 1 :: req 1 1 3 1 bx 0)⟩) := by
 have hh := recv_c g sB p 2 mA w h mA_ok 1 1 _ rfl (.inl rfl)
 rw [if_pos (by decide)] at hh
 have e : cAnswered sB (.int .i64 1 :: .int .i64 1 :: (req 1 1 3 1 bx 0).drop 2) mA 2 = ⟨sA, false, some (.int .i64 1 :: req 1 1 3 1 bx 0)⟩ := by
  unfold cAnswered
  rw [if_neg (by decide), if_pos (by decide)]
  rfl
 exact e ▸ hh
theorem recB (g : Nat) (p : Value) (w : World) (h : Cl w g sA p) :
 Calls Try.prog 16 #[.pointer (some ⟨g, 0, none⟩), .int .i64 1, .agg mB.cells.toArray] w (RecR w g ⟨sC, true, none⟩) := by
 have hh := recv_c g sA p 1 mB w h mB_ok 1 1 _ rfl (.inl rfl)
 rw [if_pos (by decide)] at hh
 have e : cAnswered sA (.int .i64 1 :: .int .i64 1 :: (req 1 1 3 1 bx 0).drop 2) mB 1 = ⟨sC, true, none⟩ := by
  unfold cAnswered
  rw [if_pos (by decide)]
  rfl
 exact e ▸ hh
theorem Cl.ptr_lt {w : World} {g : Nat} {S : CS} {p : Value} (h : Cl w g S p) {b : Nat} (hp : p = .pointer (some ⟨b, 0, none⟩)) : b < w.heap.size := by
 cases ho : S.opened with
 | none => rw [h.shut ho] at hp; cases hp
 | some cs =>
  obtain ⟨b', _, h2, h3⟩ := h.opened cs ho
  rw [h2] at hp
  injection hp with hp; injection hp with hp; injection hp with hp
  subst hp
  exact h3.lt
set_option maxRecDepth 100000 in
set_option maxHeartbeats 1000000 in
theorem awake_c (w : World) : Calls Try.prog 10 #[] w fun e w' => e = .returned (.bool true) ∧ Below w.heap.size w w' := by
 go_enter Try.func10, Try.ntmps10
 go_wp2_with fail
 refine (new_c 3 2 (by decide) (by decide) w).mono ?_
 rintro e w1 ⟨rfl, hc, hb⟩
 obtain ⟨g, hg⟩ : ∃ g, w.heap.size = g := ⟨_, rfl⟩
 have HG := hide hg
 rw [hg] at hc
 have HC := hide hc;have HB := hide hb
 rw [hg]
 clear hc hb hg
 go_wp2_with fail
 refine (ask_awake ▸ request_c g (csNew 3 2) (.pointer none) 1 bx w1 HC.out (by decide) (by decide)).mono ?_
 rintro e w2 ⟨rfl, ⟨q2, hc⟩, ht⟩
 have HC2 := hide hc
 have HB2 := hide (Below.touch HB.out ht (by simp; exact Nat.le_of_eq HG.out) HB.out.size)
 have HT2 := hide ht;clear hc ht
 dsimp only
 obtain ⟨L2, hL2⟩ : ∃ L, L = (.int .i64 1 :: req 1 1 3 1 bx 0) := ⟨_, rfl⟩
 rw [← hL2]
 have HLL2 : Hid (L2.length = 48) := hide (by rw [hL2]; rfl)
 have HLO2 : Hid (L2.toArray.all (·.oneCell') = true) := hide (by rw [hL2]; exact one_out (req_one _ _ _ _ _ _))
 have HLS2 : Hid ((Try.prog.info? 59).map (·.size) = some L2.toArray.size) := hide (by rw [hL2]; exact size_out rfl)
 have HLD2 := hide hL2;clear hL2
 go_wp2_with (first
  | (refine wpList_alloc_blk rfl 59 rfl zout.toArray zout_info ?_; intro wa hx1 hb1 hs1; have HXA := hide hx1; have HBA := hide hb1; clear hx1 hb1 hs1)
  | (refine wpList_store_blk rfl 59 (.tmp 2) _ rfl w2.heap.size 59 zout.toArray L2.toArray rfl rfl HXA.out (by rw [List.size_toArray, List.size_toArray, HLL2.out, zout_len]) HLS2.out HLO2.out ?_; intro x2 hx2 ht2 hs2; have HX2 := hide hx2; have HS2 := hide (Below.touch (HBA.out) ht2 (by simp) HBA.out.size); clear HXA HBA hx2 ht2 hs2))
 have HCX := hide (HC2.out.step HS2.out)
 have HBX := hide (HB2.out.trans (HS2.out.mono HB2.out.size))
 refine (ret_awake ▸ retry_c g sA q2 x2 HCX.out).mono ?_
 rintro e w3 ⟨rfl, ⟨q3, hc⟩, ht⟩
 have HC3 := hide hc
 have HB3 := hide (Below.touch HBX.out ht (by simp; exact Nat.le_of_eq HG.out) HBX.out.size)
 have HT3 := hide ht;clear hc ht
 dsimp only
 obtain ⟨L3, hL3⟩ : ∃ L, L = (.int .i64 2 :: req 1 1 3 1 bx 0) := ⟨_, rfl⟩
 rw [← hL3]
 have HLL3 : Hid (L3.length = 48) := hide (by rw [hL3]; rfl)
 have HLO3 : Hid (L3.toArray.all (·.oneCell') = true) := hide (by rw [hL3]; exact one_out (req_one _ _ _ _ _ _))
 have HLS3 : Hid ((Try.prog.info? 59).map (·.size) = some L3.toArray.size) := hide (by rw [hL3]; exact size_out rfl)
 have HLD3 := hide hL3;clear hL3
 go_wp2_with (first
  | (refine wpList_alloc_blk rfl 59 rfl zout.toArray zout_info ?_; intro wa hx1 hb1 hs1; have HXA := hide hx1; have HBA := hide hb1; clear hx1 hb1 hs1)
  | (refine wpList_store_blk rfl 59 (.tmp 4) _ rfl w3.heap.size 59 zout.toArray L3.toArray rfl rfl HXA.out (by rw [List.size_toArray, List.size_toArray, HLL3.out, zout_len]) HLS3.out HLO3.out ?_; intro x3 hx2 ht2 hs2; have HX3 := hide hx2; have HS3 := hide (Below.touch (HBA.out) ht2 (by simp) HBA.out.size); have hY2 := (HX2.out.touch HT3.out (by simp only [List.mem_singleton]; exact fun e => Nat.lt_irrefl _ (e ▸ HC2.out.lt))).step HS3.out; have t2 := hY2.cell 0; have n2 := hY2.cell 4; have c2 := hY2.cell 3; have t3 := HX3.out.cell 0; rw [HLD2.out] at t2 n2 c2; rw [HLD3.out] at t3; unfold req at t2 n2 c2 t3; simp only [List.getElem?_toArray, List.getElem?_cons_zero, List.getElem?_cons_succ, List.cons_append] at t2 n2 c2 t3; have HC4 := hide (HC3.out.step HS3.out); have HB4 := hide (HB3.out.trans (HS3.out.mono HB3.out.size)); clear HXA HBA hx2 ht2 hs2 hY2)
  | (refine wpList_build rfl 41 _ rfl _ (by simp [Act.eval]; rfl) mA.cells.toArray built_mA ?_)
  | (refine wpList_alloc_blk rfl 41 rfl zmsgI.toArray zmsgI_info ?_; intro wm hx1 hb1 hs1; clear t2 n2 c2 t3; have HXM := hide hx1; have HBM := hide hb1; have HC5 := hide (HC4.out.step hb1); have HB5 := hide (HB4.out.trans (hb1.mono HB4.out.size)); clear hx1 hb1 hs1)
  | (refine wpList_store_blk rfl 41 (.tmp 6) _ rfl x3.heap.size 41 zmsgI.toArray mA.cells.toArray rfl rfl HXM.out (by rw [List.size_toArray, List.size_toArray, mA_ok.size, zmsgI_len]) (size_msg mA_ok.size) mA_ok.ones ?_; intro wn hx2 ht2 hs2; have HXN := hide hx2; have HCN := hide (HC5.out.far_of ht2 (by simp only [List.mem_singleton]; exact fun e => Nat.lt_irrefl _ (e ▸ HC4.out.lt)) (fun b hb => by simp only [List.mem_singleton]; exact fun e => Nat.lt_irrefl _ (e ▸ HC4.out.ptr_lt hb))); have HBN := hide (Below.touch HB5.out ht2 (by simp only [List.mem_singleton]; rintro _ rfl; exact HB4.out.size) HB5.out.size); clear HXM HBM HC5 HB5 hx2 ht2 hs2)
  | (refine wpList_load_blk rfl 41 (.tmp 6) rfl x3.heap.size 41 mA.cells.toArray _ rfl HXN.out Try.underlying41 rfl (size_msg mA_ok.size) ?_))
 refine (recA g q3 wn HCN.out).mono ?_
 rintro e w4 ⟨v4, rfl, ⟨b4, hb4, rfl, hbk, hbl⟩, ⟨q4, hc4⟩, ht4⟩
 have hxn := HXN.out.touch ht4 (by simp only [List.mem_singleton]; exact fun e => Nat.lt_irrefl _ (e ▸ HC4.out.lt))
 have k4 := hxn.cell 4;have k6 := hxn.cell 6;have kf4 := hxn.froz 4;have kf6 := hxn.froz 6
 unfold mA MV.cells at k4 k6
 simp only [List.getElem?_toArray, List.getElem?_cons_zero, List.getElem?_cons_succ] at k4 k6
 have hyn := (hxn.put 4 (.int .i64 0)).put 6 (.int .i64 0)
 rw [show ((mA.cells.toArray.setIfInBounds 4 (.int .i64 0)).setIfInBounds 6 (.int .i64 0)) = mB.cells.toArray from by simp [mA, mB, MV.cells]] at hyn
 have HYN := hide hyn
 have HX4 : Hid (x3.heap.size < wn.heap.size) := hide HXN.out.lt
 have hc6 : Cl ((w4.setCell ⟨x3.heap.size, 4, none⟩ (.int .i64 0)).setCell ⟨x3.heap.size, 6, none⟩ (.int .i64 0)) g sA q4 :=
  hc4.far_of (((Touch.refl [x3.heap.size] w4).set (by simp) 4 _).set (by simp) 6 _) (by simp only [List.mem_singleton]; exact fun e => Nat.lt_irrefl _ (e ▸ HC4.out.lt)) (fun b hb => by
   obtain ⟨b', _, h2, h3⟩ := hc4.opened _ rfl
   have h2' := h2.symm.trans hb
   injection h2' with h2'; injection h2' with h2'; injection h2' with h2'
   subst h2'
   simp only [List.mem_singleton]
   rintro rfl
   unfold Blk at h3 hxn
   rw [hxn] at h3
   injection h3 with h3
   injection h3 with h3
   exact absurd (congrArg (fun a => a[4]?) h3) (by simp [mA, MV.cells, req]))
 have HC6 := hide hc6
 have hb6 : Below w.heap.size w ((w4.setCell ⟨x3.heap.size, 4, none⟩ (.int .i64 0)).setCell ⟨x3.heap.size, 6, none⟩ (.int .i64 0)) :=
  ((Below.touch HBN.out ht4 (by simp; exact Nat.le_of_eq HG.out) HBN.out.size).setCell (HB4.out.size) _).setCell (HB4.out.size) _
 have HB6 := hide hb6
 have HK4 : Hid (Blk ((w4.setCell ⟨x3.heap.size, 4, none⟩ (.int .i64 0)).setCell ⟨x3.heap.size, 6, none⟩ (.int .i64 0)) b4 59 (Value.int .i64 1 :: req 1 1 3 1 bx 0).toArray) := hide ((hbk.far (by show b4 ≠ x3.heap.size; exact fun e => Nat.lt_irrefl _ (Nat.lt_of_lt_of_le (e ▸ HX4.out) hb4)) _).far (by show b4 ≠ x3.heap.size; exact fun e => Nat.lt_irrefl _ (Nat.lt_of_lt_of_le (e ▸ HX4.out) hb4)) _)
 clear hbk hbl hb4 hc4 ht4 hxn hyn hc6 hb6
 dsimp only
 go_wp2_with (first
  | (refine wpList_load_blk rfl 41 (.tmp 6) rfl x3.heap.size 41 mB.cells.toArray _ rfl HYN.out Try.underlying41 rfl (size_msg mB_ok.size) ?_))
 refine (recB g q4 _ HC6.out).mono ?_
 rintro e w7 ⟨v7, rfl, hv7, ⟨q7, hc7⟩, ht7⟩
 have e7 : v7 = .slice none 0 0 := hv7
 subst e7
 have hk7 := HK4.out.touch ht7 (by
  simp only [List.mem_singleton]
  rintro rfl
  have h1 := HC6.out.blk;have h2 := HK4.out
  unfold Blk at h1 h2
  rw [h1] at h2
  injection h2 with h2
  injection h2 with h2 h3
  exact absurd h3 (by decide))
 have t4 := hk7.cell 0
 simp only [List.getElem?_toArray, List.getElem?_cons_zero] at t4
 have HB7 := hide (Below.touch HB6.out ht7 (by simp; exact Nat.le_of_eq HG.out) HB6.out.size)
 clear hv7 hc7 ht7 hk7
 dsimp only
 go_wp2_with fail
 go_ret
 exact ⟨rfl, HB7.out⟩
end
end Go.Proofs.Ytpbgelhjbfckcaa
