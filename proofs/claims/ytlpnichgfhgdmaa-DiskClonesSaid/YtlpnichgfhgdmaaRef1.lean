/- The reference's disk is a value: two slices, the fuse, the mark. -/
import Derived.Test.YtlpnichgfhgdmaaClone2
namespace Go.Proofs.Ytlpnichgfhgdmaa
open Go.ChangeShapes Go.WideShapes Go.ChangeAt Go.RowKit
set_option linter.unusedVariables false
set_option linter.unusedSimpArgs false

/-- The blocks that a value takes up are there, and none is F's. -/
def Apart (w : World) (F : List Nat) (v : Value) : Prop := ∀ j, v.ownBlock = some j → j < w.heap.size ∧ j ∉ F
theorem Apart.touch {w w' : World} {F F' S : List Nat} {v : Value} (h : Apart w F v) (k : Touch S w w') (hF : ∀ j ∈ F', j ∈ F ∨ w.heap.size ≤ j) : Apart w' F' v := fun j hj => by
  obtain ⟨h1, h2⟩ := h j hj
  refine ⟨Nat.lt_of_lt_of_le h1 k.size, fun hm => ?_⟩
  rcases hF j hm with e | e
  · exact h2 e
  · omega
theorem Apart.new {w w' : World} {F : List Nat} {v : Value} (hF : ∀ j ∈ F, j < w.heap.size) (h : ∀ j, v.ownBlock = some j → w.heap.size ≤ j ∧ j < w'.heap.size) : Apart w' F v := fun j hj => by
  obtain ⟨h1, h2⟩ := h j hj
  exact ⟨h2, fun hm => by have := hF j hm; omega⟩

structure Pgs (w : World) (F : List Nat) (vs : List Value) (ps : List (List UInt8)) : Prop where
  len : vs.length = ps.length
  at_ : ∀ (i : Nat) (v : Value) (p : List UInt8), vs[i]? = some v → ps[i]? = some p → Bs w v p ∧ Apart w F v
theorem Pgs.touch {w w' : World} {F F' : List Nat} {vs : List Value} {ps : List (List UInt8)} (h : Pgs w F vs ps) (k : Touch F w w') (hF : ∀ j ∈ F', j ∈ F ∨ w.heap.size ≤ j) : Pgs w' F' vs ps :=
  ⟨h.len, fun i v p h1 h2 => ⟨(h.at_ i v p h1 h2).1.touch k fun j hj => ((h.at_ i v p h1 h2).2 j hj).2, (h.at_ i v p h1 h2).2.touch k hF⟩⟩
theorem Pgs.nil (w : World) (F : List Nat) : Pgs w F [] [] := ⟨rfl, fun i v p h => by simp at h⟩
theorem Pgs.snoc {w : World} {F : List Nat} {vs : List Value} {ps : List (List UInt8)} {v : Value} {p : List UInt8} (h : Pgs w F vs ps) (h1 : Bs w v p) (h2 : Apart w F v) : Pgs w F (vs ++ [v]) (ps ++ [p]) := by
  refine ⟨by simp [h.len], fun i x q hx hq => ?_⟩
  have hl := h.len
  rcases Nat.lt_trichotomy i vs.length with hi | hi | hi
  · rw [List.getElem?_append_left hi] at hx
    rw [List.getElem?_append_left (by omega)] at hq
    exact h.at_ i x q hx hq
  · subst hi
    rw [List.getElem?_concat_length] at hx
    rw [hl, List.getElem?_concat_length] at hq
    cases hx; cases hq
    exact ⟨h1, h2⟩
  · rw [List.getElem?_eq_none (by simp; omega)] at hx
    cases hx
theorem Pgs.set {w : World} {F : List Nat} {vs : List Value} {ps : List (List UInt8)} {v : Value} {p : List UInt8} (h : Pgs w F vs ps) (i : Nat) (h1 : Bs w v p) (h2 : Apart w F v) : Pgs w F (vs.set i v) (ps.set i p) := by
  refine ⟨by simp [h.len], fun j x q hx hq => ?_⟩
  rw [List.getElem?_set] at hx hq
  by_cases hj : i = j
  · subst hj
    rw [if_pos rfl] at hx hq
    split at hx
    · split at hq
      · cases hx; cases hq; exact ⟨h1, h2⟩
      · cases hq
    · cases hx
  · rw [if_neg hj] at hx hq
    exact h.at_ j x q hx hq

/-- The cells of pending writes: a page's number and a slice each. -/
def pc (xs : List (Nat × Value)) : List Value := (xs.map fun x => [.int .i64 x.1, x.2]).flatten
theorem pc_len (xs : List (Nat × Value)) : (pc xs).length = xs.length * 2 := by
  induction xs with
  | nil => rfl
  | cons x xs ih =>
    have e : pc (x :: xs) = [.int .i64 x.1, x.2] ++ pc xs := by simp [pc]
    rw [e, List.length_append, ih]; simp; omega
theorem pc_snoc (xs : List (Nat × Value)) (x : Nat × Value) : pc (xs ++ [x]) = pc xs ++ [.int .i64 x.1, x.2] := by simp [pc]
theorem pc_at (xs : List (Nat × Value)) (i : Nat) (x : Nat × Value) (h : xs[i]? = some x) : (pc xs)[i * 2]? = some (.int .i64 x.1) ∧ (pc xs)[i * 2 + 1]? = some x.2 := by
  induction xs generalizing i with
  | nil => simp at h
  | cons y xs ih =>
    have e : pc (y :: xs) = .int .i64 y.1 :: y.2 :: pc xs := by simp [pc]
    cases i with
    | zero => simp at h; subst h; rw [e]; simp
    | succ i =>
      have := ih i (by simpa using h)
      rw [e, show (i + 1) * 2 = i * 2 + 1 + 1 by omega]
      simpa using this
structure Pds (w : World) (F : List Nat) (xs : List (Nat × Value)) (ws : List (Nat × List UInt8)) : Prop where
  len : xs.length = ws.length
  at_ : ∀ (i : Nat) (x : Nat × Value) (y : Nat × List UInt8), xs[i]? = some x → ws[i]? = some y → x.1 = y.1 ∧ Bs w x.2 y.2 ∧ Apart w F x.2
theorem Pds.touch {w w' : World} {F F' : List Nat} {xs : List (Nat × Value)} {ws : List (Nat × List UInt8)} (h : Pds w F xs ws) (k : Touch F w w') (hF : ∀ j ∈ F', j ∈ F ∨ w.heap.size ≤ j) : Pds w' F' xs ws :=
  ⟨h.len, fun i v p h1 h2 => ⟨(h.at_ i v p h1 h2).1, (h.at_ i v p h1 h2).2.1.touch k fun j hj => ((h.at_ i v p h1 h2).2.2 j hj).2, (h.at_ i v p h1 h2).2.2.touch k hF⟩⟩
theorem Pds.nil (w : World) (F : List Nat) : Pds w F [] [] := ⟨rfl, fun i v p h => by simp at h⟩
theorem Pds.snoc {w : World} {F : List Nat} {xs : List (Nat × Value)} {ws : List (Nat × List UInt8)} {x : Nat × Value} {y : Nat × List UInt8} (h : Pds w F xs ws) (h0 : x.1 = y.1) (h1 : Bs w x.2 y.2) (h2 : Apart w F x.2) : Pds w F (xs ++ [x]) (ws ++ [y]) := by
  refine ⟨by simp [h.len], fun i a b hx hq => ?_⟩
  have hl := h.len
  rcases Nat.lt_trichotomy i xs.length with hi | hi | hi
  · rw [List.getElem?_append_left hi] at hx
    rw [List.getElem?_append_left (by omega)] at hq
    exact h.at_ i a b hx hq
  · subst hi
    rw [List.getElem?_concat_length] at hx
    rw [hl, List.getElem?_concat_length] at hq
    cases hx; cases hq
    exact ⟨h0, h1, h2⟩
  · rw [List.getElem?_eq_none (by simp; omega)] at hx
    cases hx

/-- The two slices of a disk of the reference. F: blocks in which none of it lies. -/
structure Rk (w : World) (F : List Nat) (D : DS) (dv pv : Value) (vs : List Value) (xs : List (Nat × Value)) : Prop where
  dur : Row w 28 1 dv D.pages.length vs
  pend : Row w 83 2 pv D.pend.length (pc xs)
  pgs : Pgs w F vs D.pages
  pds : Pds w F xs D.pend
  dA : Apart w F dv
  pA : Apart w F pv
  ok : D.Ok
theorem Rk.touch {w w' : World} {F F' : List Nat} {D : DS} {dv pv : Value} {vs : List Value} {xs : List (Nat × Value)} (h : Rk w F D dv pv vs xs) (k : Touch F w w') (hF : ∀ j ∈ F', j ∈ F ∨ w.heap.size ≤ j) : Rk w' F' D dv pv vs xs :=
  ⟨h.dur.touch k fun j hj => (h.dA j hj).2, h.pend.touch k fun j hj => (h.pA j hj).2, h.pgs.touch k hF, h.pds.touch k hF, h.dA.touch k hF, h.pA.touch k hF, h.ok⟩
theorem Rk.step {w w' : World} {F : List Nat} {D : DS} {dv pv : Value} {vs : List Value} {xs : List (Nat × Value)} (h : Rk w F D dv pv vs xs) (k : Below w.heap.size w w') : Rk w' F D dv pv vs xs :=
  h.touch (Touch.below k F) fun j hj => .inl hj
/-- Another fuse, another mark. -/
theorem Rk.other {w : World} {F : List Nat} {D D' : DS} {dv pv : Value} {vs : List Value} {xs : List (Nat × Value)} (h : Rk w F D dv pv vs xs) (h1 : D'.pages = D.pages) (h2 : D'.pend = D.pend) (ok : D'.Ok) : Rk w F D' dv pv vs xs :=
  ⟨by rw [h1]; exact h.dur, by rw [h2]; exact h.pend, by rw [h1]; exact h.pgs, by rw [h2]; exact h.pds, h.dA, h.pA, ok⟩
def rv (dv pv : Value) (D : DS) : Value := .agg #[dv, pv, .int .i64 D.fuse, .bool D.failed]
/-- The value v is a disk of the reference in the state D. -/
def Rf (w : World) (F : List Nat) (v : Value) (D : DS) : Prop := ∃ dv pv vs xs, v = rv dv pv D ∧ Rk w F D dv pv vs xs
theorem Rf.touch {w w' : World} {F F' : List Nat} {v : Value} {D : DS} (h : Rf w F v D) (k : Touch F w w') (hF : ∀ j ∈ F', j ∈ F ∨ w.heap.size ≤ j) : Rf w' F' v D := by
  obtain ⟨dv, pv, vs, xs, e, h⟩ := h; exact ⟨dv, pv, vs, xs, e, h.touch k hF⟩
theorem Rf.step {w w' : World} {F : List Nat} {v : Value} {D : DS} (h : Rf w F v D) (k : Below w.heap.size w w') : Rf w' F v D := h.touch (Touch.below k F) fun j hj => .inl hj
theorem Rf.ok {w : World} {F : List Nat} {v : Value} {D : DS} (h : Rf w F v D) : D.Ok := by obtain ⟨dv, pv, vs, xs, e, h⟩ := h; exact h.ok
/-- A call of the reference: a new value, and nothing that was there has turned. -/
def GivesR (w : World) (F : List Nat) (D : DS) (e : Ending) (w' : World) : Prop := ∃ v, e = .returned v ∧ Rf w' F v D ∧ Below w.heap.size w w'
def GivesRE (w : World) (F : List Nat) (r : DS × Int) (e : Ending) (w' : World) : Prop := ∃ v, e = .returned (.tuple #[v, .int .i64 r.2]) ∧ Rf w' F v r.1 ∧ Below w.heap.size w w'

theorem below_two (w : World) (o o' : Obj) : Below w.heap.size w ((w.alloc o).alloc o') := ((Below.refl _ w).alloc (Nat.le_refl _) _).alloc (by simp) _
/-- A call that hands back the same two slices. -/
def Val2 (w : World) (A : Option Addr) (n c : Nat) (B : Option Addr) (m b : Nat) (D : DS) (e : Ending) (w' : World) : Prop := e = .returned (rv (.slice A n c) (.slice B m b) D) ∧ Below w.heap.size w w'

set_option maxHeartbeats 1000000 in
theorem burn_v (A : Option Addr) (n c : Nat) (B : Option Addr) (m b : Nat) (D : DS) (hf : -1 ≤ D.fuse ∧ D.fuse ≤ 9223372036854775807) (w : World) :
    Calls Try.prog 45 #[rv (.slice A n c) (.slice B m b) D] w (Val2 w A n c B m b (dBurn D).1) := by
  unfold Val2 rv dBurn
  obtain ⟨hf1, hf2⟩ := hf
  by_cases h0 : D.fuse = 0
  · rw [if_pos h0]
    simp only
    rw [h0]
    generalize D.failed = fl
    go_enter Try.func45, Try.ntmps45
    go_wp2_with fail
    refine bodyPost_ret (v := .agg #[.slice A n c, .slice B m b, .int .i64 0, .bool true]) (by simp [results, Try.results45, go_sem]) rfl ⟨rfl, ?_⟩
    exact below_two _ _ _
  · have hz0 : (D.fuse == 0) = false := by simpa using h0
    rw [if_neg h0]
    by_cases h1 : 0 < D.fuse
    · rw [if_pos h1]
      simp only
      generalize D.failed = fl
      generalize D.fuse = z at *
      go_enter Try.func45, Try.ntmps45
      go_wp2_with fail
      refine bodyPost_ret (v := .agg #[.slice A n c, .slice B m b, .int .i64 (z - 1), .bool fl]) (by simp [results, Try.results45, go_sem]) rfl ⟨rfl, ?_⟩
      exact below_two _ _ _
    · rw [if_neg h1]
      have h2 : D.fuse ≤ 0 := by omega
      simp only
      generalize D.failed = fl
      generalize D.fuse = z at *
      go_enter Try.func45, Try.ntmps45
      go_wp2_with fail
      refine bodyPost_ret (v := .agg #[.slice A n c, .slice B m b, .int .i64 z, .bool fl]) (by simp [results, Try.results45, go_sem]) rfl ⟨rfl, ?_⟩
      exact below_two _ _ _

set_option maxHeartbeats 1000000 in
theorem failAfter_v (A : Option Addr) (n c : Nat) (B : Option Addr) (m b : Nat) (D : DS) (q : Int) (w : World) :
    Calls Try.prog 42 #[rv (.slice A n c) (.slice B m b) D, .int .i64 q] w (Val2 w A n c B m b (dFailAfter D q)) := by
  unfold Val2 rv dFailAfter
  simp only
  generalize D.failed = fl
  generalize D.fuse = z at *
  by_cases hle : -1 ≤ q
  · rw [Int.max_eq_left hle]
    go_enter Try.func42, Try.ntmps42
    go_wp2_with fail
    refine bodyPost_ret (v := .agg #[.slice A n c, .slice B m b, .int .i64 q, .bool fl]) (by simp [results, Try.results42, go_sem, Int.max_eq_left hle]) rfl ⟨rfl, ?_⟩
    exact below_two _ _ _
  · have hlt : q < -1 := by omega
    rw [Int.max_eq_right (by omega)]
    go_enter Try.func42, Try.ntmps42
    go_wp2_with fail
    refine bodyPost_ret (v := .agg #[.slice A n c, .slice B m b, .int .i64 (-1), .bool fl]) (by simp [results, Try.results42, go_sem, Int.max_eq_right (show q ≤ -1 by omega)]) rfl ⟨rfl, ?_⟩
    exact below_two _ _ _
theorem failAfter_r (F : List Nat) (v : Value) (D : DS) (q : Int) (hq : q ≤ 9223372036854775807) (w : World) (h : Rf w F v D) : Calls Try.prog 42 #[v, .int .i64 q] w (GivesR w F (dFailAfter D q)) := by
  obtain ⟨dv, pv, vs, xs, rfl, hk⟩ := h
  obtain ⟨A, c, rfl, _⟩ := hk.dur.form
  obtain ⟨B, b, rfl, _⟩ := hk.pend.form
  refine (failAfter_v A _ c B _ b D q w).mono ?_
  rintro e w' ⟨rfl, hb⟩
  exact ⟨_, rfl, ⟨_, _, vs, xs, rfl, (hk.step hb).other rfl rfl ⟨hk.ok.pages, hk.ok.pend, by show -1 ≤ max q (-1) ∧ max q (-1) ≤ 9223372036854775807; omega⟩⟩, hb⟩
end Go.Proofs.Ytlpnichgfhgdmaa
