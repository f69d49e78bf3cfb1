/- bytes.Clone, bytes.Equal; package checksum and its reference, function by function: Seal, Open. -/
import Derived.Test.YtmnebingmedloaaSumFns
import Derived.WalkSpells
namespace Go.Proofs.Ytmnebingmedloaa
open Go.ChangeShapes Go.WideShapes Go.ChangeAt Go.RowKit
set_option linter.unusedVariables false

/-- The call returns new memory with the bytes l; nothing that was there has turned. -/
def Fresh (w : World) (l : List UInt8) (e : Ending) (w' : World) : Prop := ∃ v, e = .returned v ∧ Ow w' w.heap.size v l ∧ Below w.heap.size w w'

set_option maxHeartbeats 1000000 in
theorem clone_b (v : Value) (l : List UInt8) (w : World) (h : Bs w v l) (hl : l.length ≤ 140737488355328) : Calls Try.prog 21 #[v] w (Fresh w l) := by
  obtain ⟨A, c, rfl, hc, hm⟩ := h.form
  have H := hide h
  have HL := hide hl
  clear h hl hc hm
  have heq := fun (w : World) (A : Option Addr) (n c : Nat) => Lib.run_eql_slice_nil (P := Try.prog) w 23 5 A n c 0 0 Try.underlying23
  have HL2 : Hid (0 + l.length ≤ 140737488355328) := by unfold Hid; have := HL.out; omega
  generalize hn : l.length = n at H heq
  clear hn
  cases A with
  | none =>
    have hnil : l = [] := by
      obtain ⟨A', c', hv, _, _, h3⟩ := H.out
      injection hv with e1 e2 e3
      rcases Nat.eq_zero_or_pos l.length with h0 | h0
      · exact List.eq_nil_of_length_eq_zero h0
      · obtain ⟨b, off, e, _⟩ := h3 h0
        rw [← e1] at e; cases e
    have HN := hide hnil
    clear hnil
    go_enter Try.func21, Try.ntmps21
    go_wp2_with fail
    go_ret
    exact ⟨_, rfl, by rw [HN.out]; exact Ow.nil _ _, Below.refl _ _⟩
  | some a =>
    go_enter Try.func21, Try.ntmps21
    go_wp2_with (at_builtin; refine wpList_append_bs rfl _ _ rfl w.heap.size (l := []) (m := l) rfl (Ow.made [] #[] rfl (Nat.le_refl _) (by simp)) rfl (H.out.alloc _) HL2.out (by simp) ?_; intro v1 w1 how hg hw)
    go_ret
    exact ⟨_, rfl, how, below_grown ((Below.refl _ _).alloc (Nat.le_refl _) _) hg (by simp) (Nat.le_refl _)⟩

set_option maxHeartbeats 1000000 in
theorem equal_b (v1 v2 : Value) (l1 l2 : List UInt8) (w : World) (h1 : Bs w v1 l1) (h2 : Bs w v2 l2) :
    Calls Try.prog 22 #[v1, v2] w fun e w' => e = .returned (.bool (l1 == l2)) ∧ w = w' := by
  have c1 := run_string_bs h1
  have c2 := run_string_bs h2
  clear h1 h2
  go_enter Try.func22, Try.ntmps22
  go_wp2_with fail
  go_ret
  exact ⟨rfl, rfl⟩

/-- A sum's four bytes. -/
def le4 (x : BitVec 32) : List UInt8 := [lo8 x, lo8 (x >>> 8), lo8 (x >>> 16), lo8 (x >>> 24)]
def seal_ (l : List UInt8) : List UInt8 := l ++ le4 (upd 0#32 l)

theorem le4_cells (x : BitVec 32) : (#[Value.int .u8 (u32 x % 256), Value.int .u8 (u32 x / 256 % 256), Value.int .u8 (u32 x / 65536 % 256), Value.int .u8 (u32 x / 16777216 % 256)] : Array Value).toList = (le4 x).map bv := by
  simp only [le4, bv, List.map_cons, List.map_nil, u32_shr8, u32_shr16, u32_shr24, u32_lo]
theorem below_append {B base : Nat} {a w w' : World} {v : Value} {l : List UInt8} (h : Below B a w) (ho : Ow w base v l) (hg : w.grownBy w' v.ownBlock) (hB : B ≤ w.heap.size) (hbase : B ≤ base) : Below B a w' :=
  h.grown hg hB fun k hk => Nat.le_trans hbase (ho.lt k hk).1

set_option maxHeartbeats 1000000 in
theorem seal_c (v : Value) (l : List UInt8) (w : World) (h : Bs w v l) (hl : l.length ≤ 70368744177664) : Calls Try.prog 14 #[v] w (Fresh w (seal_ l)) := by
  have H := hide h
  have HL := hide hl
  clear h hl
  go_enter Try.func14, Try.ntmps14
  go_wp2_with fail
  refine (sum_c _ l _ H.out).mono ?_
  rintro e w1 ⟨rfl, hb⟩
  go_wp2_with fail
  refine (clone_b _ l _ (H.out.step hb) (by have := HL.out; omega)).mono ?_
  rintro e w2 ⟨v2, rfl, ho, hb2⟩
  have hlt := ho.lt
  have HB := hide (show Below w.heap.size w w2 from hb.trans (hb2.mono hb.size))
  have HO := hide (ho.mono hb.size)
  clear hb hb2 ho hlt
  have HL2 : Hid (l.length + (le4 (upd 0#32 l)).length ≤ 140737488355328) := by unfold Hid; have := HL.out; simp [le4]; omega
  have HC := hide (le4_cells (upd 0#32 l))
  go_wp2_with (at_builtin; refine wpList_append_bs rfl _ _ rfl w.heap.size rfl (HO.out.alloc _) rfl (Ow.made _ _ HC.out (Nat.le_refl _) (by simp [le4, maxLen])).bs HL2.out (by have := HB.out.size; simp; omega) ?_; intro v1 w3 how hg hw)
  go_ret
  exact ⟨_, rfl, how, below_append (HB.out.alloc HB.out.size _) (HO.out.alloc _) hg (by have := HB.out.size; simp; omega) (Nat.le_refl _)⟩

/-- What Open finds. -/
def open_ (l : List UInt8) : Option (List UInt8) := if 4 ≤ l.length ∧ seal_ (l.take (l.length - 4)) = l then some (l.take (l.length - 4)) else none
/-- The call returns new memory with the bytes, or none and the error. -/
def FreshE (w : World) (r : Option (List UInt8)) (e : Ending) (w' : World) : Prop := ∃ v c, e = .returned (.tuple #[v, .int .i64 c]) ∧ Ow w' w.heap.size v (r.getD []) ∧ Below w.heap.size w w' ∧ c = (if r.isSome then 0 else 11)

set_option maxHeartbeats 1000000 in
theorem open_c (v : Value) (l : List UInt8) (w : World) (h : Bs w v l) (hl : l.length ≤ 70368744177664) : Calls Try.prog 15 #[v] w (FreshE w (open_ l)) := by
  obtain ⟨A, c, rfl, hc, hm⟩ := h.form
  have H := hide h
  have HL := hide hl
  by_cases h4 : l.length < 4
  · have HN := hide (show open_ l = none from if_neg (fun e => by omega))
    clear h hl
    generalize l.length = n at *
    go_enter Try.func15, Try.ntmps15
    go_wp2_with fail
    go_ret2
    exact ⟨_, 11, rfl, by rw [HN.out]; exact Ow.nil _ _, Below.refl _ _, by rw [HN.out]; rfl⟩
  · have HT := hide (Bs.take h (k := l.length - 4) (by omega))
    have hTl : Hid ((l.take (l.length - 4)).length ≤ 70368744177664) := by unfold Hid; rw [List.length_take]; omega
    have HD : Hid (open_ l = if seal_ (l.take (l.length - 4)) = l then some (l.take (l.length - 4)) else none) := by
      unfold Hid open_
      by_cases he : seal_ (l.take (l.length - 4)) = l
      · rw [if_pos ⟨by omega, he⟩, if_pos he]
      · rw [if_neg (fun e => he e.2), if_neg he]
    clear h hl
    generalize l.take (l.length - 4) = m at *
    generalize l.length = n at *
    by_cases he : seal_ m = l
    · have hq : (seal_ m == l) = true := by simpa using he
      rw [if_pos he] at HD
      clear he
      go_enter Try.func15, Try.ntmps15
      go_wp2_with fail
      refine (seal_c _ m _ HT.out hTl.out).mono ?_
      rintro e w1 ⟨v1, rfl, ho, hb⟩
      go_wp2_with fail
      refine (equal_b _ _ _ l _ ho.bs (H.out.step hb)).mono ?_
      rintro e w2 ⟨rfl, rfl⟩
      go_wp2_with fail
      refine (clone_b _ m _ (HT.out.step hb) (by have := hTl.out; omega)).mono ?_
      rintro e w2 ⟨v2, rfl, ho2, hb2⟩
      go_wp2_with fail
      go_ret2
      exact ⟨_, 0, rfl, by rw [HD.out]; exact ho2.mono hb.size, hb.trans (hb2.mono hb.size), by rw [HD.out]; rfl⟩
    · have hq : (seal_ m == l) = false := by simpa using he
      rw [if_neg he] at HD
      clear he
      go_enter Try.func15, Try.ntmps15
      go_wp2_with fail
      refine (seal_c _ m _ HT.out hTl.out).mono ?_
      rintro e w1 ⟨v1, rfl, ho, hb⟩
      go_wp2_with fail
      refine (equal_b _ _ _ l _ ho.bs (H.out.step hb)).mono ?_
      rintro e w2 ⟨rfl, rfl⟩
      go_wp2_with fail
      go_ret2
      exact ⟨_, 11, rfl, by rw [HD.out]; exact Ow.nil _ _, hb, by rw [HD.out]; rfl⟩
end Go.Proofs.Ytmnebingmedloaa
