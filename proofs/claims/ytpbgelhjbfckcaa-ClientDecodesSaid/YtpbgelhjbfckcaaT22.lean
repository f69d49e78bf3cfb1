/- Receive. -/
import Derived.Test.YtpbgelhjbfckcaaT21
import Derived.Great.Walk
namespace Go.Proofs.Ytpbgelhjbfckcaa
open Go.ChangeShapes Go.WideShapes Go.ChangeAt Go.RowKit
set_option linter.unusedVariables false
set_option linter.unusedSimpArgs false

/-- What Receive leaves: the client, whether the request ends, the message to be sent. -/
structure RecV where
  st : CS
  ends : Bool
  out : Option (List Value)
/-- A list of at most one message. -/
def OutIn (w : World) (n : Nat) (v : Value) : Option (List Value) → Prop
  | none => v = .slice none 0 0
  | some cs => ∃ b, n ≤ b ∧ v = .slice (some ⟨b, 0, none⟩) 1 1 ∧ Blk w b 59 cs.toArray ∧ cs.length = 48
def RecR (w : World) (g : Nat) (r : RecV) (e : Ending) (w' : World) : Prop :=
  ∃ v, e = .returned (.tuple #[.bool r.ends, v]) ∧ OutIn w' w.heap.size v r.out ∧ (∃ q, Cl w' g r.st q) ∧ Touch [g] w w'
/-- Behind a message that answers the open request. -/
def cAnswered (S : CS) (cs : List Value) (m : MV) (frm : Int) : RecV :=
  if m.code = 0 ∨ m.code = 1 then ⟨{ S with opened := none }, true, none⟩
  else if m.code = 17 ∧ m.kind = 2 ∧ 0 < m.leader ∧ 1 ≤ m.leader.tmod 100 ∧ m.leader.tmod 100 ≤ S.machines ∧ m.leader.tmod 100 ≠ frm then ⟨{ S with target := m.leader.tmod 100 }, false, some (.int .i64 (m.leader.tmod 100) :: cs)⟩
  else ⟨S, false, none⟩
theorem rec_same {w w' : World} {g : Nat} {S : CS} {p : Value} (h : Cl w g S p) (hb : Below w.heap.size w w') : RecR w g ⟨S, false, none⟩ (.returned (.tuple #[.bool false, .slice none 0 0])) w' :=
  ⟨_, rfl, rfl, ⟨p, h.step hb⟩, Touch.below hb _⟩
theorem cl_shut {w : World} {g : Nat} {S : CS} {p : Value} (h : Cl w g S p) : Cl (w.setCell ⟨g, 4, none⟩ (.pointer none)) g { S with opened := none } (.pointer none) :=
  ⟨h.blk.put 4 _, ⟨h.ok.id, h.ok.machines, h.ok.target, h.ok.number, fun cs hc => by cases hc⟩, fun _ => rfl, fun cs hc => by cases hc⟩
theorem cl_target {w : World} {g : Nat} {S : CS} {p : Value} {t : Int} (h : Cl w g S p) (h1 : 1 ≤ t) (h2 : t ≤ S.machines) : Cl (w.setCell ⟨g, 2, none⟩ (.int .i64 t)) g { S with target := t } p :=
  ⟨h.blk.put 2 _, ⟨h.ok.id, h.ok.machines, ⟨h1, h2⟩, h.ok.number, h.ok.opened⟩, h.shut, fun cs hc => by obtain ⟨b, q1, q2, q3⟩ := h.opened cs hc; exact ⟨b, q1, q2, q3.far q1 _⟩⟩
theorem fill_one (Z : Array Value) (hZ : Z.size = 48) (cs : List Value) (h : cs.length = 48) (place : Nat → Option (Nat × Nat)) (p0 : place 0 = some (0, 48)) :
    Instr.fill place Z [(0, .agg cs.toArray)] = some cs.toArray := by
  have e2 : (Value.agg cs.toArray).cells = cs.toArray := rfl
  simp only [Instr.fill, p0, e2]
  have f1 := Go.Great.foldl_set 0 cs 0 Z
  generalize hz2 : ((cs.toArray.zipIdx).foldl (fun cs (x : Value × Nat) => cs.setIfInBounds (0 + x.2) x.1) Z) = Z2
  have hz2' : ((cs.zipIdx 0).foldl (fun cs (x : Value × Nat) => cs.setIfInBounds (0 + x.2) x.1) Z) = Z2 := by rw [← hz2]; simp
  rw [hz2'] at f1
  rw [if_neg (by simp [hZ, h])]
  congr 1
  apply Array.ext_getElem?
  intro i
  rw [f1.2 i]
  by_cases hj : i < 48
  · rw [if_pos (by rw [hZ]; omega)]
    simp
  · rw [if_neg (by omega), Array.getElem?_eq_none (by rw [hZ]; omega), Array.getElem?_eq_none (by simp; omega)]
theorem slice_one (cs : List Value) (h : cs.length = 48) : Try.prog.builtSlice 59 1 [(0, .agg cs.toArray)] = some cs.toArray := by
  obtain ⟨i0, hi0, hz⟩ := Option.map_eq_some_iff.mp info_out
  have hz0 : i0.zero = some (.agg (zi :: zmsg).toArray) := congrArg Prod.fst hz
  have hz1 : i0.size = 48 := congrArg Prod.snd hz
  obtain ⟨z, sz⟩ : ∃ z : Value, z = .agg (zi :: zmsg).toArray := ⟨_, rfl⟩
  rw [← sz] at hz0
  have hf : Instr.fill (fun i => some (i * i0.size, i0.size)) ((Array.range (1 * i0.size)).map (z.cells[· % z.cells.size]!)) [(0, .agg cs.toArray)] = some cs.toArray :=
    fill_one _ (by rw [Array.size_map, Array.size_range, hz1]) cs h _ (by rw [hz1])
  have hn : ¬ (1 * i0.size > 2 ^ 24 ∨ 1 * i0.size = 0) := by rw [hz1]; omega
  unfold Program.builtSlice
  rw [hi0]
  dsimp only
  rw [hz0]
  dsimp only
  rw [if_neg hn]
  exact hf

set_option maxRecDepth 100000 in
set_option maxHeartbeats 1000000 in
theorem recv_no (g : Nat) (S : CS) (p : Value) (frm : Int) (m : MV) (w : World) (h : Cl w g S p) (hm : m.Ok) (hA : ∀ X, Below w.heap.size w X → Calls Try.prog 27 #[.pointer (some ⟨g, 0, none⟩), .agg m.cells.toArray] X (AnsR X false)) :
    Calls Try.prog 16 #[.pointer (some ⟨g, 0, none⟩), .int .i64 frm, .agg m.cells.toArray] w (RecR w g ⟨S, false, none⟩) := by
  have HC := hide h
  clear h
  go_enter Try.func16, Try.ntmps16
  go_wp2_with (first | (refine wpList_box_blk rfl 41 (.tmp 2) rfl m.cells.toArray rfl ?_; intro W1 hx1 hb1 hs1; have HX1 := hide hx1; have HB1 := hide hb1; have HS1 := hide hs1; clear hx1 hb1 hs1) | (refine wpList_load_blk rfl 41 (.tmp 5) rfl w.heap.size 41 m.cells.toArray _ rfl HX1.out Try.underlying41 rfl (size_msg hm.size) ?_))
  refine (hA W1 HB1.out).mono ?_
  rintro e W2 ⟨rfl, hb2⟩
  have HX2 := hide (HX1.out.step hb2)
  have HB2 := hide (HB1.out.trans (hb2.mono HB1.out.size))
  clear hb2
  go_wp2_with fail
  refine bodyPost_ret (v := .tuple #[.bool false, .slice none 0 0]) (by simp [results, Try.results16, go_sem]) rfl ?_
  exact rec_same HC.out HB2.out

set_option maxRecDepth 100000 in
set_option maxHeartbeats 1000000 in
theorem recv_end (g : Nat) (S : CS) (p : Value) (frm : Int) (m : MV) (w : World) (h : Cl w g S p) (hm : m.Ok) (hA : ∀ X, Below w.heap.size w X → Calls Try.prog 27 #[.pointer (some ⟨g, 0, none⟩), .agg m.cells.toArray] X (AnsR X true)) (hc : m.code = 0 ∨ m.code = 1) :
    Calls Try.prog 16 #[.pointer (some ⟨g, 0, none⟩), .int .i64 frm, .agg m.cells.toArray] w (RecR w g ⟨{ S with opened := none }, true, none⟩) := by
  have HC := hide h
  clear h
  go_enter Try.func16, Try.ntmps16
  go_wp2_with (first | (refine wpList_box_blk rfl 41 (.tmp 2) rfl m.cells.toArray rfl ?_; intro W1 hx1 hb1 hs1; have HX1 := hide hx1; have HB1 := hide hb1; have HS1 := hide hs1; clear hx1 hb1 hs1) | (refine wpList_load_blk rfl 41 (.tmp 5) rfl w.heap.size 41 m.cells.toArray _ rfl HX1.out Try.underlying41 rfl (size_msg hm.size) ?_))
  refine (hA W1 HB1.out).mono ?_
  rintro e W2 ⟨rfl, hb2⟩
  have HX2 := hide (HX1.out.step hb2)
  have HB2 := hide (HB1.out.trans (hb2.mono HB1.out.size))
  clear hb2
  have x0 := HX2.out.cell 0
  have x4 := HX2.out.cell 4
  have x6 := HX2.out.cell 6
  unfold MV.cells at x0 x4 x6
  simp only [List.getElem?_toArray, List.getElem?_cons_zero, List.getElem?_cons_succ] at x0 x4 x6
  have HCW := hide (HC.out.step HB2.out)
  have k1 := HCW.out.cells.2.1
  have kf2 := HCW.out.cells.2.2.2.2.2.2.2.1
  have kf4 := HCW.out.cells.2.2.2.2.2.2.2.2.2
  have kc4 := HCW.out.cells.2.2.2.2.1
  have kc2 := HCW.out.cells.2.2.1
  clear hA

  have HEND : Hid (RecR w g ⟨{ S with opened := none }, true, none⟩ (.returned (.tuple #[.bool true, .slice none 0 0])) (W2.setCell ⟨g, 4, none⟩ (.pointer none))) := hide ⟨_, rfl, rfl, ⟨_, cl_shut HCW.out⟩, (Touch.below HB2.out [g]).set (by simp) 4 _⟩
  rcases hc with hc | hc
  · go_wp2_with fail
    refine bodyPost_ret (v := .tuple #[.bool true, .slice none 0 0]) (by simp [results, Try.results16, go_sem]) rfl ?_
    exact HEND.out
  · go_wp2_with fail
    refine bodyPost_ret (v := .tuple #[.bool true, .slice none 0 0]) (by simp [results, Try.results16, go_sem]) rfl ?_
    exact HEND.out

set_option maxRecDepth 100000 in
set_option maxHeartbeats 1000000 in
theorem recv_other (g : Nat) (S : CS) (p : Value) (frm : Int) (m : MV) (w : World) (h : Cl w g S p) (hm : m.Ok) (hA : ∀ X, Below w.heap.size w X → Calls Try.prog 27 #[.pointer (some ⟨g, 0, none⟩), .agg m.cells.toArray] X (AnsR X true)) (hc0 : ¬ m.code = 0) (hc1 : ¬ m.code = 1) (hc2 : ¬ m.code = 17) :
    Calls Try.prog 16 #[.pointer (some ⟨g, 0, none⟩), .int .i64 frm, .agg m.cells.toArray] w (RecR w g ⟨S, false, none⟩) := by
  have HC := hide h
  clear h
  go_enter Try.func16, Try.ntmps16
  go_wp2_with (first | (refine wpList_box_blk rfl 41 (.tmp 2) rfl m.cells.toArray rfl ?_; intro W1 hx1 hb1 hs1; have HX1 := hide hx1; have HB1 := hide hb1; have HS1 := hide hs1; clear hx1 hb1 hs1) | (refine wpList_load_blk rfl 41 (.tmp 5) rfl w.heap.size 41 m.cells.toArray _ rfl HX1.out Try.underlying41 rfl (size_msg hm.size) ?_))
  refine (hA W1 HB1.out).mono ?_
  rintro e W2 ⟨rfl, hb2⟩
  have HX2 := hide (HX1.out.step hb2)
  have HB2 := hide (HB1.out.trans (hb2.mono HB1.out.size))
  clear hb2
  have x0 := HX2.out.cell 0
  have x4 := HX2.out.cell 4
  have x6 := HX2.out.cell 6
  unfold MV.cells at x0 x4 x6
  simp only [List.getElem?_toArray, List.getElem?_cons_zero, List.getElem?_cons_succ] at x0 x4 x6
  have HCW := hide (HC.out.step HB2.out)
  have k1 := HCW.out.cells.2.1
  have kf2 := HCW.out.cells.2.2.2.2.2.2.2.1
  have kf4 := HCW.out.cells.2.2.2.2.2.2.2.2.2
  have kc4 := HCW.out.cells.2.2.2.2.1
  have kc2 := HCW.out.cells.2.2.1
  clear hA

  go_wp2_with fail
  refine bodyPost_ret (v := .tuple #[.bool false, .slice none 0 0]) (by simp [results, Try.results16, go_sem]) rfl ?_
  exact rec_same HC.out HB2.out

set_option maxRecDepth 100000 in
set_option maxHeartbeats 1000000 in
theorem recv_kind (g : Nat) (S : CS) (p : Value) (frm : Int) (m : MV) (w : World) (h : Cl w g S p) (hm : m.Ok) (hA : ∀ X, Below w.heap.size w X → Calls Try.prog 27 #[.pointer (some ⟨g, 0, none⟩), .agg m.cells.toArray] X (AnsR X true)) (hc : m.code = 17) (hk : ¬ m.kind = 2) :
    Calls Try.prog 16 #[.pointer (some ⟨g, 0, none⟩), .int .i64 frm, .agg m.cells.toArray] w (RecR w g ⟨S, false, none⟩) := by
  have HC := hide h
  clear h
  go_enter Try.func16, Try.ntmps16
  go_wp2_with (first | (refine wpList_box_blk rfl 41 (.tmp 2) rfl m.cells.toArray rfl ?_; intro W1 hx1 hb1 hs1; have HX1 := hide hx1; have HB1 := hide hb1; have HS1 := hide hs1; clear hx1 hb1 hs1) | (refine wpList_load_blk rfl 41 (.tmp 5) rfl w.heap.size 41 m.cells.toArray _ rfl HX1.out Try.underlying41 rfl (size_msg hm.size) ?_))
  refine (hA W1 HB1.out).mono ?_
  rintro e W2 ⟨rfl, hb2⟩
  have HX2 := hide (HX1.out.step hb2)
  have HB2 := hide (HB1.out.trans (hb2.mono HB1.out.size))
  clear hb2
  have x0 := HX2.out.cell 0
  have x4 := HX2.out.cell 4
  have x6 := HX2.out.cell 6
  unfold MV.cells at x0 x4 x6
  simp only [List.getElem?_toArray, List.getElem?_cons_zero, List.getElem?_cons_succ] at x0 x4 x6
  have HCW := hide (HC.out.step HB2.out)
  have k1 := HCW.out.cells.2.1
  have kf2 := HCW.out.cells.2.2.2.2.2.2.2.1
  have kf4 := HCW.out.cells.2.2.2.2.2.2.2.2.2
  have kc4 := HCW.out.cells.2.2.2.2.1
  have kc2 := HCW.out.cells.2.2.1
  clear hA

  generalize ht : m.leader.tmod 100 = t at *
  have hc0 : ¬ m.code = 0 := by omega
  have hc1 : ¬ m.code = 1 := by omega
  have hd : (m.kind == 2) = false := by simpa using hk
  go_wp2_with fail
  refine bodyPost_ret (v := .tuple #[.bool false, .slice none 0 0]) (by simp [results, Try.results16, go_sem]) rfl ?_
  exact rec_same HC.out HB2.out

set_option maxRecDepth 100000 in
set_option maxHeartbeats 1000000 in
theorem recv_leader (g : Nat) (S : CS) (p : Value) (frm : Int) (m : MV) (w : World) (h : Cl w g S p) (hm : m.Ok) (hA : ∀ X, Below w.heap.size w X → Calls Try.prog 27 #[.pointer (some ⟨g, 0, none⟩), .agg m.cells.toArray] X (AnsR X true)) (hc : m.code = 17) (hk : m.kind = 2) (hl : ¬ 0 < m.leader) :
    Calls Try.prog 16 #[.pointer (some ⟨g, 0, none⟩), .int .i64 frm, .agg m.cells.toArray] w (RecR w g ⟨S, false, none⟩) := by
  have HC := hide h
  clear h
  go_enter Try.func16, Try.ntmps16
  go_wp2_with (first | (refine wpList_box_blk rfl 41 (.tmp 2) rfl m.cells.toArray rfl ?_; intro W1 hx1 hb1 hs1; have HX1 := hide hx1; have HB1 := hide hb1; have HS1 := hide hs1; clear hx1 hb1 hs1) | (refine wpList_load_blk rfl 41 (.tmp 5) rfl w.heap.size 41 m.cells.toArray _ rfl HX1.out Try.underlying41 rfl (size_msg hm.size) ?_))
  refine (hA W1 HB1.out).mono ?_
  rintro e W2 ⟨rfl, hb2⟩
  have HX2 := hide (HX1.out.step hb2)
  have HB2 := hide (HB1.out.trans (hb2.mono HB1.out.size))
  clear hb2
  have x0 := HX2.out.cell 0
  have x4 := HX2.out.cell 4
  have x6 := HX2.out.cell 6
  unfold MV.cells at x0 x4 x6
  simp only [List.getElem?_toArray, List.getElem?_cons_zero, List.getElem?_cons_succ] at x0 x4 x6
  have HCW := hide (HC.out.step HB2.out)
  have k1 := HCW.out.cells.2.1
  have kf2 := HCW.out.cells.2.2.2.2.2.2.2.1
  have kf4 := HCW.out.cells.2.2.2.2.2.2.2.2.2
  have kc4 := HCW.out.cells.2.2.2.2.1
  have kc2 := HCW.out.cells.2.2.1
  clear hA

  generalize ht : m.leader.tmod 100 = t at *
  have hc0 : ¬ m.code = 0 := by omega
  have hc1 : ¬ m.code = 1 := by omega
  have hd : (m.kind == 2) = true := by simpa using hk
  have hd2 : decide (0 < m.leader) = false := by simpa using hl
  go_wp2_with fail
  refine bodyPost_ret (v := .tuple #[.bool false, .slice none 0 0]) (by simp [results, Try.results16, go_sem]) rfl ?_
  exact rec_same HC.out HB2.out

set_option maxRecDepth 100000 in
set_option maxHeartbeats 1000000 in
theorem recv_least (g : Nat) (S : CS) (p : Value) (frm : Int) (m : MV) (w : World) (h : Cl w g S p) (hm : m.Ok) (hA : ∀ X, Below w.heap.size w X → Calls Try.prog 27 #[.pointer (some ⟨g, 0, none⟩), .agg m.cells.toArray] X (AnsR X true)) (hc : m.code = 17) (hk : m.kind = 2) (hl : 0 < m.leader) (h1 : ¬ 1 ≤ m.leader.tmod 100) :
    Calls Try.prog 16 #[.pointer (some ⟨g, 0, none⟩), .int .i64 frm, .agg m.cells.toArray] w (RecR w g ⟨S, false, none⟩) := by
  have HC := hide h
  clear h
  go_enter Try.func16, Try.ntmps16
  go_wp2_with (first | (refine wpList_box_blk rfl 41 (.tmp 2) rfl m.cells.toArray rfl ?_; intro W1 hx1 hb1 hs1; have HX1 := hide hx1; have HB1 := hide hb1; have HS1 := hide hs1; clear hx1 hb1 hs1) | (refine wpList_load_blk rfl 41 (.tmp 5) rfl w.heap.size 41 m.cells.toArray _ rfl HX1.out Try.underlying41 rfl (size_msg hm.size) ?_))
  refine (hA W1 HB1.out).mono ?_
  rintro e W2 ⟨rfl, hb2⟩
  have HX2 := hide (HX1.out.step hb2)
  have HB2 := hide (HB1.out.trans (hb2.mono HB1.out.size))
  clear hb2
  have x0 := HX2.out.cell 0
  have x4 := HX2.out.cell 4
  have x6 := HX2.out.cell 6
  unfold MV.cells at x0 x4 x6
  simp only [List.getElem?_toArray, List.getElem?_cons_zero, List.getElem?_cons_succ] at x0 x4 x6
  have HCW := hide (HC.out.step HB2.out)
  have k1 := HCW.out.cells.2.1
  have kf2 := HCW.out.cells.2.2.2.2.2.2.2.1
  have kf4 := HCW.out.cells.2.2.2.2.2.2.2.2.2
  have kc4 := HCW.out.cells.2.2.2.2.1
  have kc2 := HCW.out.cells.2.2.1
  clear hA

  generalize ht : m.leader.tmod 100 = t at *
  have hc0 : ¬ m.code = 0 := by omega
  have hc1 : ¬ m.code = 1 := by omega
  have hd : (m.kind == 2) = true := by simpa using hk
  have hd3 : decide (1 ≤ t) = false := by simpa using h1
  have ht2 : m.leader % 100 = t := by rw [← ht]; exact (Int.tmod_eq_emod_of_nonneg (by omega)).symm
  go_wp2_with fail
  refine bodyPost_ret (v := .tuple #[.bool false, .slice none 0 0]) (by simp [results, Try.results16, go_sem]) rfl ?_
  exact rec_same HC.out HB2.out

set_option maxRecDepth 100000 in
set_option maxHeartbeats 1000000 in
theorem recv_most (g : Nat) (S : CS) (p : Value) (frm : Int) (m : MV) (w : World) (h : Cl w g S p) (hm : m.Ok) (hA : ∀ X, Below w.heap.size w X → Calls Try.prog 27 #[.pointer (some ⟨g, 0, none⟩), .agg m.cells.toArray] X (AnsR X true)) (hc : m.code = 17) (hk : m.kind = 2) (hl : 0 < m.leader) (h1 : 1 ≤ m.leader.tmod 100) (h2 : ¬ m.leader.tmod 100 ≤ S.machines) :
    Calls Try.prog 16 #[.pointer (some ⟨g, 0, none⟩), .int .i64 frm, .agg m.cells.toArray] w (RecR w g ⟨S, false, none⟩) := by
  have HC := hide h
  clear h
  go_enter Try.func16, Try.ntmps16
  go_wp2_with (first | (refine wpList_box_blk rfl 41 (.tmp 2) rfl m.cells.toArray rfl ?_; intro W1 hx1 hb1 hs1; have HX1 := hide hx1; have HB1 := hide hb1; have HS1 := hide hs1; clear hx1 hb1 hs1) | (refine wpList_load_blk rfl 41 (.tmp 5) rfl w.heap.size 41 m.cells.toArray _ rfl HX1.out Try.underlying41 rfl (size_msg hm.size) ?_))
  refine (hA W1 HB1.out).mono ?_
  rintro e W2 ⟨rfl, hb2⟩
  have HX2 := hide (HX1.out.step hb2)
  have HB2 := hide (HB1.out.trans (hb2.mono HB1.out.size))
  clear hb2
  have x0 := HX2.out.cell 0
  have x4 := HX2.out.cell 4
  have x6 := HX2.out.cell 6
  unfold MV.cells at x0 x4 x6
  simp only [List.getElem?_toArray, List.getElem?_cons_zero, List.getElem?_cons_succ] at x0 x4 x6
  have HCW := hide (HC.out.step HB2.out)
  have k1 := HCW.out.cells.2.1
  have kf2 := HCW.out.cells.2.2.2.2.2.2.2.1
  have kf4 := HCW.out.cells.2.2.2.2.2.2.2.2.2
  have kc4 := HCW.out.cells.2.2.2.2.1
  have kc2 := HCW.out.cells.2.2.1
  clear hA

  generalize ht : m.leader.tmod 100 = t at *
  have hc0 : ¬ m.code = 0 := by omega
  have hc1 : ¬ m.code = 1 := by omega
  have hd : (m.kind == 2) = true := by simpa using hk
  have hd4 : decide (t ≤ S.machines) = false := by simpa using h2
  have ht2 : m.leader % 100 = t := by rw [← ht]; exact (Int.tmod_eq_emod_of_nonneg (by omega)).symm
  go_wp2_with fail
  refine bodyPost_ret (v := .tuple #[.bool false, .slice none 0 0]) (by simp [results, Try.results16, go_sem]) rfl ?_
  exact rec_same HC.out HB2.out

set_option maxRecDepth 100000 in
set_option maxHeartbeats 1000000 in
theorem recv_from (g : Nat) (S : CS) (p : Value) (frm : Int) (m : MV) (w : World) (h : Cl w g S p) (hm : m.Ok) (hA : ∀ X, Below w.heap.size w X → Calls Try.prog 27 #[.pointer (some ⟨g, 0, none⟩), .agg m.cells.toArray] X (AnsR X true)) (hc : m.code = 17) (hk : m.kind = 2) (hl : 0 < m.leader) (h1 : 1 ≤ m.leader.tmod 100) (h2 : m.leader.tmod 100 ≤ S.machines) (h3 : m.leader.tmod 100 = frm) :
    Calls Try.prog 16 #[.pointer (some ⟨g, 0, none⟩), .int .i64 frm, .agg m.cells.toArray] w (RecR w g ⟨S, false, none⟩) := by
  have HC := hide h
  clear h
  go_enter Try.func16, Try.ntmps16
  go_wp2_with (first | (refine wpList_box_blk rfl 41 (.tmp 2) rfl m.cells.toArray rfl ?_; intro W1 hx1 hb1 hs1; have HX1 := hide hx1; have HB1 := hide hb1; have HS1 := hide hs1; clear hx1 hb1 hs1) | (refine wpList_load_blk rfl 41 (.tmp 5) rfl w.heap.size 41 m.cells.toArray _ rfl HX1.out Try.underlying41 rfl (size_msg hm.size) ?_))
  refine (hA W1 HB1.out).mono ?_
  rintro e W2 ⟨rfl, hb2⟩
  have HX2 := hide (HX1.out.step hb2)
  have HB2 := hide (HB1.out.trans (hb2.mono HB1.out.size))
  clear hb2
  have x0 := HX2.out.cell 0
  have x4 := HX2.out.cell 4
  have x6 := HX2.out.cell 6
  unfold MV.cells at x0 x4 x6
  simp only [List.getElem?_toArray, List.getElem?_cons_zero, List.getElem?_cons_succ] at x0 x4 x6
  have HCW := hide (HC.out.step HB2.out)
  have k1 := HCW.out.cells.2.1
  have kf2 := HCW.out.cells.2.2.2.2.2.2.2.1
  have kf4 := HCW.out.cells.2.2.2.2.2.2.2.2.2
  have kc4 := HCW.out.cells.2.2.2.2.1
  have kc2 := HCW.out.cells.2.2.1
  clear hA

  generalize ht : m.leader.tmod 100 = t at *
  have hc0 : ¬ m.code = 0 := by omega
  have hc1 : ¬ m.code = 1 := by omega
  have hd : (m.kind == 2) = true := by simpa using hk
  have hd5 : (t != frm) = false := by simpa using h3
  have ht2 : m.leader % 100 = t := by rw [← ht]; exact (Int.tmod_eq_emod_of_nonneg (by omega)).symm
  go_wp2_with fail
  refine bodyPost_ret (v := .tuple #[.bool false, .slice none 0 0]) (by simp [results, Try.results16, go_sem]) rfl ?_
  exact rec_same HC.out HB2.out

set_option maxRecDepth 100000 in
set_option maxHeartbeats 1000000 in
theorem recv_go (g : Nat) (S : CS) (p : Value) (frm : Int) (m : MV) (w : World) (h : Cl w g S p) (hm : m.Ok) (hA : ∀ X, Below w.heap.size w X → Calls Try.prog 27 #[.pointer (some ⟨g, 0, none⟩), .agg m.cells.toArray] X (AnsR X true)) (cs : List Value) (ho : S.opened = some cs) (hc : m.code = 17) (hk : m.kind = 2) (hl : 0 < m.leader) (h1 : 1 ≤ m.leader.tmod 100) (h2 : m.leader.tmod 100 ≤ S.machines) (h3 : ¬ m.leader.tmod 100 = frm) :
    Calls Try.prog 16 #[.pointer (some ⟨g, 0, none⟩), .int .i64 frm, .agg m.cells.toArray] w (RecR w g ⟨{ S with target := m.leader.tmod 100 }, false, some (.int .i64 (m.leader.tmod 100) :: cs)⟩) := by
  have HC := hide h
  clear h
  go_enter Try.func16, Try.ntmps16
  go_wp2_with (first | (refine wpList_box_blk rfl 41 (.tmp 2) rfl m.cells.toArray rfl ?_; intro W1 hx1 hb1 hs1; have HX1 := hide hx1; have HB1 := hide hb1; have HS1 := hide hs1; clear hx1 hb1 hs1) | (refine wpList_load_blk rfl 41 (.tmp 5) rfl w.heap.size 41 m.cells.toArray _ rfl HX1.out Try.underlying41 rfl (size_msg hm.size) ?_))
  refine (hA W1 HB1.out).mono ?_
  rintro e W2 ⟨rfl, hb2⟩
  have HX2 := hide (HX1.out.step hb2)
  have HB2 := hide (HB1.out.trans (hb2.mono HB1.out.size))
  clear hb2
  have x0 := HX2.out.cell 0
  have x4 := HX2.out.cell 4
  have x6 := HX2.out.cell 6
  unfold MV.cells at x0 x4 x6
  simp only [List.getElem?_toArray, List.getElem?_cons_zero, List.getElem?_cons_succ] at x0 x4 x6
  have HCW := hide (HC.out.step HB2.out)
  have k1 := HCW.out.cells.2.1
  have kf2 := HCW.out.cells.2.2.2.2.2.2.2.1
  have kf4 := HCW.out.cells.2.2.2.2.2.2.2.2.2
  have kc4 := HCW.out.cells.2.2.2.2.1
  have kc2 := HCW.out.cells.2.2.1
  clear hA

  generalize ht : m.leader.tmod 100 = t at *
  have hc0 : ¬ m.code = 0 := by omega
  have hc1 : ¬ m.code = 1 := by omega

  obtain ⟨b0, hb0, rfl, hbm⟩ := HCW.out.opened cs ho
  have HBM := hide hbm
  have hl' := (HCW.out.ok.opened cs ho).1
  have hone := (HCW.out.ok.opened cs ho).2
  have HO := hide ho
  clear hbm ho
  have hd : (m.kind == 2) = true := by simpa using hk
  have hd5 : (t != frm) = true := by simpa using h3
  have ht2 : m.leader % 100 = t := by rw [← ht]; exact (Int.tmod_eq_emod_of_nonneg (by omega)).symm

  have HT := hide (cl_target HCW.out h1 h2)
  have HBD := hide HB2.out
  go_wp2_with fail
  have HSND := hide (send_c g _ _ cs _ HT.out HO.out)
  refine HSND.out.mono ?_
  rintro e W5 ⟨rfl, hb5⟩
  have HT5 := hide (HT.out.step hb5)
  have HB5 := hide (((Touch.below HBD.out [g]).set (by simp) 2 (.int .i64 t)).step hb5)
  have HON : Hid ((Value.int .i64 t :: cs).length = 48) := hide (by rw [List.length_cons, hl'])
  clear hb5 HSND HT
  obtain ⟨os, hos⟩ : ∃ os, os = (Value.int .i64 t :: cs) := ⟨_, rfl⟩
  dsimp only
  rw [← hos] at HON ⊢
  go_wp2_with (first | (refine Go.Great.wpList_buildSliceTo rfl 53 59 1 #[(0, .tmp 56)] rfl W5.heap.size rfl _ rfl Try.underlying53 os.toArray (by simpa [Act.eval] using slice_one os HON.out) ?_))
  refine bodyPost_ret (v := .tuple #[.bool false, .slice (some ⟨W5.heap.size, 0, none⟩) 1 1]) (by simp [results, Try.results16, go_sem]) rfl ?_
  subst hos
  exact ⟨_, rfl, ⟨W5.heap.size, HB5.out.size, rfl, Blk.new _ _ _, HON.out⟩, ⟨_, HT5.out.step ((Below.refl _ _).alloc (Nat.le_refl _) _)⟩, HB5.out.alloc _⟩

/-- Receive, where a request of the client is open. -/
theorem recv_c (g : Nat) (S : CS) (p : Value) (frm : Int) (m : MV) (w : World) (h : Cl w g S p) (hm : m.Ok) (k0 g0 : Int) (rs : List Value) (ho : S.opened = some (.int .i64 k0 :: .int .i64 g0 :: rs)) (hk : k0 = 1 ∨ k0 = 9) :
    Calls Try.prog 16 #[.pointer (some ⟨g, 0, none⟩), .int .i64 frm, .agg m.cells.toArray] w (RecR w g (if answersB S k0 g0 m = true then cAnswered S (.int .i64 k0 :: .int .i64 g0 :: rs) m frm else ⟨S, false, none⟩)) := by
  have hA : ∀ X, Below w.heap.size w X → Calls Try.prog 27 #[.pointer (some ⟨g, 0, none⟩), .agg m.cells.toArray] X (AnsR X (answersB S k0 g0 m)) := fun X k => answers_c g S p m X (h.step k) k0 g0 rs ho hk
  cases hB : answersB S k0 g0 m with
  | false =>
    rw [hB] at hA
    rw [if_neg (by simp)]
    exact recv_no g S p frm m w h hm hA
  | true =>
    rw [hB] at hA
    rw [if_pos rfl]
    unfold cAnswered
    by_cases h1 : m.code = 0 ∨ m.code = 1
    · rw [if_pos h1]; exact recv_end g S p frm m w h hm hA h1
    rw [if_neg h1]
    by_cases h2 : m.code = 17 ∧ m.kind = 2 ∧ 0 < m.leader ∧ 1 ≤ m.leader.tmod 100 ∧ m.leader.tmod 100 ≤ S.machines ∧ m.leader.tmod 100 ≠ frm
    · rw [if_pos h2]
      obtain ⟨a1, a2, a3, a4, a5, a6⟩ := h2
      exact recv_go g S p frm m w h hm hA _ ho a1 a2 a3 a4 a5 a6
    rw [if_neg h2]
    by_cases a1 : m.code = 17
    · by_cases a2 : m.kind = 2
      · by_cases a3 : 0 < m.leader
        · by_cases a4 : 1 ≤ m.leader.tmod 100
          · by_cases a5 : m.leader.tmod 100 ≤ S.machines
            · by_cases a6 : m.leader.tmod 100 = frm
              · exact recv_from g S p frm m w h hm hA a1 a2 a3 a4 a5 a6
              · exact absurd ⟨a1, a2, a3, a4, a5, a6⟩ h2
            · exact recv_most g S p frm m w h hm hA a1 a2 a3 a4 a5
          · exact recv_least g S p frm m w h hm hA a1 a2 a3 a4
        · exact recv_leader g S p frm m w h hm hA a1 a2 a3
      · exact recv_kind g S p frm m w h hm hA a1 a2
    · exact recv_other g S p frm m w h hm hA (fun e => h1 (.inl e)) (fun e => h1 (.inr e)) a1
theorem recv_shut (g : Nat) (S : CS) (p : Value) (frm : Int) (m : MV) (w : World) (h : Cl w g S p) (hm : m.Ok) (ho : S.opened = none) :
    Calls Try.prog 16 #[.pointer (some ⟨g, 0, none⟩), .int .i64 frm, .agg m.cells.toArray] w (RecR w g ⟨S, false, none⟩) :=
  recv_no g S p frm m w h hm fun X k => answers_no g S p m X (h.step k) ho
end Go.Proofs.Ytpbgelhjbfckcaa
