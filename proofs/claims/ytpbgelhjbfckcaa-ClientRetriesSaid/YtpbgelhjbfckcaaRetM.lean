/- ClientRetries: the plain lemmas; a set of integers in memory. -/
import Derived.Test.YtpbgelhjbfckcaaMapRow
import Derived.Maps.Views
namespace Go.Proofs.Ytpbgelhjbfckcaa
open Go.ChangeMaps Go.ChangeShapes Go.WideShapes Go.ChangeAt Go.RowKit
open Go.Maps (Keyed)
set_option linter.unusedVariables false
set_option linter.unusedSimpArgs false

/-- The target behind j retries. -/
def tgt (T n : Int) (j : Nat) : Int := (T - 1 + j) % n + 1
theorem tgt_zero {T n : Int} (h1 : 1 ≤ T) (h2 : T ≤ n) : tgt T n 0 = T := by
  unfold tgt
  rw [Int.emod_eq_of_lt (by simp; omega) (by simp; omega)]
  simp
theorem tgt_succ (T n : Int) (j : Nat) (hn : 0 < n) : tgt T n j % n + 1 = tgt T n (j + 1) := by
  unfold tgt
  rw [Int.emod_add_emod]
  have : T - 1 + (j : Int) + 1 = T - 1 + ((j + 1 : Nat) : Int) := by push_cast; omega
  rw [this]
theorem tgt_ne (T n : Int) (i j : Nat) (hij : i < j) (hj : (j : Int) < n) (hn : n ≤ 5) : tgt T n (j + 1) ≠ tgt T n (i + 1) := by
  unfold tgt
  have h : n = 1 ∨ n = 2 ∨ n = 3 ∨ n = 4 ∨ n = 5 := by omega
  rcases h with rfl | rfl | rfl | rfl | rfl <;> push_cast <;> omega
/-- The targets that have been seen. -/
def seenL (T n : Int) (j : Nat) : List Int := (List.range j).map (fun i => tgt T n (i + 1))
theorem seenL_succ (T n : Int) (j : Nat) : seenL T n (j + 1) = seenL T n j ++ [tgt T n (j + 1)] := by unfold seenL; rw [List.range_succ, List.map_append]; rfl
theorem seenL_not (T n : Int) (j : Nat) (hj : (j : Int) < n) (hn : n ≤ 5) : tgt T n (j + 1) ∉ seenL T n j := by
  unfold seenL
  intro h
  obtain ⟨i, hi, e⟩ := List.mem_map.1 h
  exact tgt_ne T n i j (List.mem_range.1 hi) hj hn e.symm
def setD (l : List Int) : DataW Unit := l.foldl (fun D t => D.put (.int .i64 t) (.lit (.bool true))) (.map [])
theorem setD_snoc (l : List Int) (t : Int) : setD (l ++ [t]) = (setD l).put (.int .i64 t) (.lit (.bool true)) := by unfold setD; rw [List.foldl_append]; rfl
theorem setD_acc (t : Int) (z : DataW Unit) : ∀ (l : List Int) (D : DataW Unit), t ∉ l → D.atKey (.int .i64 t) z = z → (l.foldl (fun D t => D.put (.int .i64 t) (.lit (.bool true))) D).atKey (.int .i64 t) z = z
  | [], D, _, h => h
  | s :: l, D, hm, h => setD_acc t z l _ (fun hh => hm (by simp [hh])) (by
    rw [Go.Maps.atKey_put_other (by intro e; injection e with _ e; exact hm (by simp [e]))]
    exact h)
theorem setD_not (t : Int) (z : DataW Unit) (l : List Int) (h : t ∉ l) : (setD l).atKey (.int .i64 t) z = z := setD_acc t z l _ h rfl
/-- Block mb is the set of the integers l. -/
def SetIn (w : World) (mb : Nat) (l : List Int) : Prop := w.ownsMap (H := Unit) Try.prog 3 (plainElem Try.prog 4) mb l.length (setD l)
theorem SetIn.touch {w w' : World} {mb : Nat} {l : List Int} {T : List Nat} (h : SetIn w mb l) (k : Touch T w w') (hm : mb ∉ T) : SetIn w' mb l := by
  obtain ⟨es, clock, hb, F, hs, hD⟩ := h
  have hlt : mb < w.heap.size := (Array.getElem?_eq_some_iff.1 hb).1
  exact ⟨es, clock, (k.block mb hlt hm).trans hb, F, hs, hD⟩
theorem SetIn.step {w w' : World} {mb : Nat} {l : List Int} (h : SetIn w mb l) (k : Below w.heap.size w w') : SetIn w' mb l := h.touch (Touch.below k []) (by simp)
theorem SetIn.ne_blk {w : World} {mb b : Nat} {l : List Int} {t : TypeId} {cs : Array Value} (h : SetIn w mb l) (hb : Blk w b t cs) : b ≠ mb := by
  rintro rfl
  obtain ⟨es, clock, hb2, _⟩ := h
  unfold Blk at hb
  rw [hb] at hb2
  cases hb2
theorem set_made (w : World) : SetIn (w.alloc (.map #[] 0)) w.heap.size [] := Go.World.ownsMap_made w Try.prog 3 (plainElem (H := Unit) Try.prog 4)
set_option maxRecDepth 100000 in
theorem SetIn.look {w : World} {mb : Nat} {l : List Int} (h : SetIn w mb l) (t : Int) (hw : (Lit.int .i64 t).wf = true) (ht : t ∉ l) : (Instr.lookup 62 (.map (some mb)) (.int .i64 t) false).run Try.prog w = .ok (.bool false) w := by
  have hz : (zeroValue 4).run Try.prog w = .ok (.bool false) w := by kernel_rfl
  obtain ⟨v, ps, hrun, hv⟩ := Go.World.ownsMap.lookup h (Go.Maps.int_keyed Try.underlying3) Try.underlying62 hz (plainElem_bool Try.underlying4 false) (key := .int .i64 t) (kl := .int .i64 t) (Go.Maps.keyOf_int_mk Try.underlying3 hw)
  rw [setD_not t _ l ht] at hv
  rw [hrun]
  have : v = .bool false := by
    unfold plainElem at hv
    rw [Try.underlying4] at hv
    cases v <;> simp at hv
    rw [hv.1]
  rw [this]
theorem wpList_makeMap_n {P : Program} {w : World} {ops : Array Oper} {rest : List Oper} {o : Oper} {a : Act} {Q : Exit → Act → World → Prop} (hgd : o.guard = none) (t : TypeId) (ho : o.op = .makeMap t none)
    (h : ∀ w' mb, mb = w.heap.size → w' = w.alloc (.map #[] 0) → wpList P ops Q rest (a.put o.dst (.map (some mb))) w') : wpList P ops Q (o :: rest) a w := wpList_plain hgd fun K hK => by
  unfold Oper.wp execOp
  simp only [ho, Option.map_none, Sem.run_bind, run_makeMap, Result.andThen_ok]
  exact hK _ _ (h _ _ rfl rfl)
set_option maxRecDepth 100000 in
theorem wpList_put_set {w : World} {ops : Array Oper} {rest : List Oper} {o : Oper} {a : Act} {Q : Exit → Act → World → Prop} {mb : Nat} {l : List Int} (h : SetIn w mb l) (hl : l.length < maxLen) (hgd : o.guard = none) (m x v : Operand) (hop : o.op = Op.mapUpdate 62 m x v)
    (t : Int) (hw : (Lit.int .i64 t).wf = true) (hm : a.eval m = .map (some mb)) (hx : a.eval x = .int .i64 t) (hv : a.eval v = .bool true)
    (hK : ∀ w', SetIn w' mb (l ++ [t]) → Touch [mb] w w' → wpList Try.prog ops Q rest (a.put o.dst undef) w') : wpList Try.prog ops Q (o :: rest) a w :=
  wpList_mapUpdate_in w hgd m x v 62 hop 3 4 (Go.Maps.int_keyed Try.underlying3) Try.underlying62 (plainElem Try.prog 4) mb l.length (setD l) hm h hl (.int .i64 t) (.bool true) (.int .i64 t) hx hv (Go.Maps.keyOf_int_mk Try.underlying3 hw) (.lit (.bool true)) [] (plainElem_bool Try.underlying4 true)
    fun w' h1 h2 => hK w' (by unfold SetIn; rw [setD_snoc, List.length_append]; exact h1) (Touch.map h2)
end Go.Proofs.Ytpbgelhjbfckcaa
