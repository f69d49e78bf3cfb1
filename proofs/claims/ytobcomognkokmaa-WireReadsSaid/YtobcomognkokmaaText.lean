/- append(b, s...), s a string; AppendText. -/
import Derived.Test.YtobcomognkokmaaInt
import Derived.Lib.AppendStr
namespace Go.Proofs.Ytobcomognkokmaa
open Go.ChangeShapes Go.WideShapes Go.ChangeAt Go.RowKit
set_option linter.unusedVariables false

theorem strCells_bv (s : ByteArray) : Lib.strCells s = s.data.toList.map bv := rfl

theorem run_append_str_keep {w : World} (base : Nat) (ty : TypeId) {v : Value} {l : List UInt8} (s : ByteArray) (hv : Ow w base v l) (hlen : l.length + s.size ≤ 140737488355328) (hbase : base ≤ w.heap.size)
    {v' : Value} {w' : World} (hr : (Builtin.append_ #[22, 9] ty #[v, .string s]).run Try.prog w = .ok v' w') : Ow w' base v l ∧ (v'.ownBlock = v.ownBlock ∨ ∃ g, v'.ownBlock = some g ∧ w.heap.size ≤ g) := by
  obtain ⟨i0, hi0, hz0, hz1, hz2⟩ := info_parts info_u8
  have hv0 := hv
  obtain ⟨hl, ⟨rfl, h0⟩ | ⟨g, cap, cur, rfl, hg, hh, hn, hm, hs, ht⟩⟩ := hv
  · have : l = [] := List.eq_nil_of_length_eq_zero h0
    subst this
    refine ⟨Ow.nil _ _, ?_⟩
    by_cases h1 : s.size = 0
    · have hc : Lib.strCells s = [] := List.eq_nil_of_length_eq_zero (by rw [Lib.strCells_length]; exact h1)
      have hf := Lib.run_firstCells_string (P := Try.prog) w 1 s
      rw [h1] at hf
      have hst : (Builtin.append_ #[22, 9] ty #[.slice none 0 0, .string s]).run Try.prog w = .ok (.slice none 0 0) w := by
        simp [Builtin.append_, run_underlying Try.underlying22, run_underlying Try.underlying9, sizeOf, typeInfo, hi0, hz1, Builtin.lenOf, h1, hf]
      rw [hst] at hr
      injection hr with e1 _
      rw [← e1]; exact .inl rfl
    · have h4 := run_append_nil_string (P := Try.prog) w 22 9 ty 5 i0 (.int .u8 0) Try.underlying22 Try.underlying9 hi0 hz0 s (by omega) (by omega) (by rw [hz2]; omega)
      rw [h4] at hr
      injection hr with e1 _
      rw [← e1]; exact .inr ⟨_, rfl, Nat.le_refl _⟩
  · rw [Nat.mul_one] at hs ht
    by_cases hroom : l.length + s.size ≤ cap
    · have h4 := Lib.run_append_room_string (P := Try.prog) w 22 9 ty 5 i0 Try.underlying22 Try.underlying9 hi0 hz1 g l.length cap cur hh s hroom (by omega)
      rw [h4] at hr
      injection hr with e1 e2
      rw [← e1, ← e2]
      refine ⟨⟨hl, .inr ⟨g, cap, _, rfl, hg, setRow_heap w g cur _ _ _ hh, hn, hm, ?_, ?_⟩⟩, .inl rfl⟩
      · simp only [Nat.mul_one, List.size_toArray, List.length_append, List.length_take, List.length_drop, Array.length_toList, Lib.strCells_length]
        omega
      · rw [Nat.mul_one, List.append_assoc, List.take_append_of_le_length (by have hcl := Array.length_toList (xs := cur); rw [List.length_take]; omega), List.take_take, Nat.min_self]
        exact ht
    · have h4 := Lib.run_append_grow_string (P := Try.prog) w 22 9 ty 5 i0 (.int .u8 0) Try.underlying22 Try.underlying9 hi0 hz0 ⟨g, 0, none⟩ l.length cap (l.map bv) (by simp [hz1]) (World.ownsRow.cells hv0 (g := g) rfl) s (by omega) (by omega) (by rw [hz2]; exact growslice_fits (by omega) (by omega))
      rw [h4] at hr
      injection hr with e1 e2
      rw [← e1, ← e2]
      exact ⟨Ow.alloc (Ow.drew hv0) _, .inr ⟨_, rfl, Nat.le_refl _⟩⟩

theorem wpList_append_str {ops : Array Oper} {rest : List Oper} {o : Oper} {a : Act} {w : World} {Q : Exit → Act → World → Prop} (hgd : o.guard = none) (s x : Operand)
    (ho : o.op = .call { callee := .builtin .append, args := #[s, x], argTypes := #[22, 9] }) (base : Nat) {v : Value} {l : List UInt8} {t : ByteArray}
    (hs : a.eval s = v) (hv : Ow w base v l) (hx : a.eval x = .string t) (hlen : l.length + t.size ≤ 140737488355328) (hbase : base ≤ w.heap.size)
    (h : ∀ v' w', Ow w' base v' (l ++ t.data.toList) → Ow w' base v l → w.grownBy w' v.ownBlock → (v'.ownBlock = v.ownBlock ∨ ∃ g, v'.ownBlock = some g ∧ w.heap.size ≤ g) → wpList Try.prog ops Q rest (a.put o.dst v') w') : wpList Try.prog ops Q (o :: rest) a w := by
  refine wpList_plain hgd fun K hK => ?_
  obtain ⟨i0, hi0, hz0, hz1, hz2⟩ := info_parts info_u8
  obtain ⟨v', w', h0, h1, h2, _⟩ := Lib.run_append_own_string (P := Try.prog) w base 22 9 o.type 5 i0 Try.underlying22 Try.underlying9 hi0 hz0 hz1 hz2 v l.length (l.map bv) hv t (by unfold maxLen; omega) hlen hbase
  obtain ⟨hk, hx2⟩ := run_append_str_keep base o.type t hv hlen hbase h0
  have hl : l.length + t.size = (l ++ t.data.toList).length := by rw [List.length_append]; rfl
  have h1' : Ow w' base v' (l ++ t.data.toList) := by
    unfold Ow
    rw [← hl, List.map_append, ← strCells_bv]
    exact h1
  unfold Oper.wp execOp
  simp only [ho, resolve, invoke, builtin, Sem.run_bind, Sem.run_pure, Result.andThen_ok, List.map_toArray, List.map_cons, List.map_nil, hs, hx, h0]
  exact hK _ _ (h v' w' h1' hk h2 hx2)

/-- A text's encoding. -/
def encT (s : ByteArray) : List UInt8 := enc s.size ++ s.data.toList

set_option maxHeartbeats 1000000 in
theorem appendText_c (base : Nat) (v : Value) (l : List UInt8) (s : ByteArray) (w : World) (h : Ow w base v l) (hl : l.length ≤ 35184372088832) (hs : s.size ≤ 35184372088832) (hbase : base ≤ w.heap.size) :
    Calls Try.prog 17 #[v, .string s] w (Appends w base v l (encT s)) := by
  obtain ⟨A, c, rfl, _, _⟩ := h.form
  have H := hide h
  have hb := blen_le 8 s.size (by omega)
  have HL : Hid ((l ++ enc s.size).length + s.size ≤ 140737488355328) := by unfold Hid enc; simp [dig_len]; omega
  clear h
  go_enter Try.func17, Try.ntmps17
  go_wp2_with fail
  refine (appendNumber_c base _ l s.size (by omega) _ H.out (by omega) hbase).mono ?_
  rintro e w1 ⟨v1, rfl, ho, hol, hg, hv⟩
  have HO := hide ho
  have HOL := hide hol
  have HG := hide hg
  have HV := hide hv
  have HB : Hid (base ≤ w1.heap.size) := hide (Nat.le_trans hbase hg.size)
  clear ho hg hol hv
  go_wp2_with (at_builtin; refine wpList_append_str rfl _ _ rfl base rfl HO.out rfl HL.out HB.out ?_; intro v2 w2 ho2 hol2 hg2 hv2)
  go_ret
  exact ⟨v2, rfl, by rw [encT, ← List.append_assoc]; exact ho2, Ow.later (fun g hg => (H.out.lt g hg).2) HOL.out HO.out hol2 hg2 HV.out (by simp), grown_next HG.out hg2 HV.out, own_next HG.out.size HV.out hv2⟩
end Go.Proofs.Ytobcomognkokmaa
