/- State, Turn, Broken, Records. -/
import Derived.Test.YtpadgkkeihhneaaJApp
import Derived.Test.YtpadgkkeihhneaaJGood
import Derived.Test.YtpadgkkeihhneaaJOpenB
namespace Go.Proofs.Ytpadgkkeihhneaa
set_option maxRecDepth 100000
set_option linter.unusedSimpArgs false
set_option linter.unusedVariables false
open Go.ChangeShapes Go.WideShapes Go.ChangeAt Go.RowKit
set_option linter.unusedVariables false
set_option linter.unusedSimpArgs false

theorem turn_c (g d : Nat) (F : List Nat) (D : DS) (J : JS) (rv : Value) (w : World) (h : Jr w g d F D J rv) :
    Calls Try.prog 11 #[.pointer (some ⟨g, 0, none⟩)] w fun e w' => e = .returned (.int .i64 J.turn) ∧ w = w' := by
  have k : w.cell? ⟨g, 1, none⟩ = some (.int .i64 J.turn) := h.cells 1
  clear h
  go_enter Try.func11, Try.ntmps11
  go_wp2_with fail
  go_ret
  exact ⟨rfl, rfl⟩
theorem state_c (g d : Nat) (F : List Nat) (D : DS) (J : JS) (rv : Value) (w : World) (h : Jr w g d F D J rv) :
    Calls Try.prog 12 #[.pointer (some ⟨g, 0, none⟩)] w fun e w' => e = .returned (sv J.state) ∧ w = w' := by
  have k : w.cell? ⟨g, 2, none⟩ = some (sv J.state) := h.cells 2
  clear h
  go_enter Try.func12, Try.ntmps12
  go_wp2_with fail
  go_ret
  exact ⟨rfl, rfl⟩
theorem Sl.cells {w : World} {A : Option Addr} {n c : Nat} {l : List (List UInt8)} (h : Sl w (.slice A n c) l) (hn : 0 < l.length) : ∃ ad, A = some ad ∧ ∀ j u, (l.map sv)[j]? = some u → w.cell? (ad.add j) = some u := by
  obtain ⟨A', c', hv, h1, h2, h3⟩ := h
  injection hv with e1 e2 e3
  subst e1 e2 e3
  obtain ⟨b, off, rfl, hb, hc⟩ := h3 hn
  refine ⟨_, rfl, fun j u hj => ?_⟩
  rw [List.getElem?_map] at hj
  have hjl : j < l.length := by
    rcases Nat.lt_or_ge j l.length with h | h
    · exact h
    · rw [List.getElem?_eq_none h] at hj; cases hj
  rw [List.getElem?_eq_getElem hjl] at hj
  rw [add_plain, hc j hjl]
  exact hj
theorem Row.sl {w : World} {v : Value} {l : List (List UInt8)} (h : w.ownsRow 0 9 1 v l.length (l.map sv)) : Strs w v l := by
  rcases h.2 with ⟨rfl, h0⟩ | ⟨g, cap, cur, rfl, _, hg, hn, hm, hs, ht⟩
  · exact .inl ⟨rfl, List.eq_nil_of_length_eq_zero h0⟩
  · exact .inr ⟨g, 0, cap, cur, rfl, hg, hn, hm, by omega, by rw [List.drop_zero]; rw [Nat.mul_one] at ht; exact ht⟩
/-- append(x, l...) onto an own row of texts. -/
theorem run_append_sl {w : World} (base : Nat) (ty : TypeId) {v x : Value} {l m : List (List UInt8)} (hv : w.ownsRow base 9 1 v l.length (l.map sv)) (hx : Sl w x m) (hlen : l.length + m.length ≤ 2000000) (hbase : base ≤ w.heap.size) :
    ∃ v' w', (Builtin.append_ #[37, 37] ty #[v, x]).run Try.prog w = .ok v' w' ∧ w'.ownsRow base 9 1 v' (l ++ m).length ((l ++ m).map sv) ∧ w.grownBy w' v.ownBlock ∧ (v'.ownBlock = v.ownBlock ∨ v'.ownBlock = some w.heap.size) := by
  obtain ⟨i0, hi0, hz0, hz1, hz2⟩ := info_parts info_str
  obtain ⟨A, c, rfl, h1, h2, h3⟩ := id hx
  rcases Nat.eq_zero_or_pos m.length with h0 | h0
  · have hm : m = [] := List.eq_nil_of_length_eq_zero h0
    subst hm
    cases A with
    | none =>
      refine ⟨v, w, ?_, by simpa using hv, grown_refl _ _, .inl rfl⟩
      obtain ⟨_, ⟨rfl, _⟩ | ⟨g, cap, cur, rfl, _, _, hn, _⟩⟩ := hv
      · simp [Builtin.append_, run_underlying Try.underlying37, sizeOf, typeInfo, hi0, Builtin.lenOf, Builtin.firstCells]
      · simp [Builtin.append_, run_underlying Try.underlying37, sizeOf, typeInfo, hi0, Builtin.lenOf, Builtin.firstCells, hn, storeCells]
    | some a =>
      obtain ⟨v', w', h4, h5, h6, _, h7⟩ := run_append_own_at (P := Try.prog) w base 37 ty 9 i0 _ 1 16 Try.underlying37 hi0 hz0 hz1 hz2 rfl (by omega) v l.length (l.map sv) hv a 0 c [] rfl (by simp) (by simp) (by unfold maxLen; omega) (by omega) hbase
      exact ⟨v', w', h4, by simpa using h5, h6, h7⟩
  · obtain ⟨ad, rfl, hc⟩ := hx.cells h0
    obtain ⟨v', w', h4, h5, h6, _, h7⟩ := run_append_own_at (P := Try.prog) w base 37 ty 9 i0 _ 1 16 Try.underlying37 hi0 hz0 hz1 hz2 rfl (by omega) v l.length (l.map sv) hv ad m.length c (m.map sv) (by simp) hc
      (fun u hu => by obtain ⟨x, _, rfl⟩ := List.mem_map.1 hu; exact sv_one x) (by unfold maxLen; omega) (by omega) hbase
    exact ⟨v', w', h4, by simpa using h5, h6, h7⟩
theorem wpList_append_sl {ops : Array Oper} {rest : List Oper} {o : Oper} {a : Act} {w : World} {Q : Exit → Act → World → Prop} (hgd : o.guard = none) (s x : Operand)
    (ho : o.op = .call { callee := .builtin .append, args := #[s, x], argTypes := #[37, 37] }) (base : Nat) {v vx : Value} {l m : List (List UInt8)}
    (hs : a.eval s = v) (hv : w.ownsRow base 9 1 v l.length (l.map sv)) (hx : a.eval x = vx) (hm : Sl w vx m) (hlen : l.length + m.length ≤ 2000000) (hbase : base ≤ w.heap.size)
    (h : ∀ v' w', w'.ownsRow base 9 1 v' (l ++ m).length ((l ++ m).map sv) → w.grownBy w' v.ownBlock → (v'.ownBlock = v.ownBlock ∨ v'.ownBlock = some w.heap.size) → wpList Try.prog ops Q rest (a.put o.dst v') w') : wpList Try.prog ops Q (o :: rest) a w := by
  refine wpList_plain hgd fun K hK => ?_
  obtain ⟨v', w', h1, h2, h3, h4⟩ := run_append_sl base o.type hv hm hlen hbase
  unfold Oper.wp execOp
  simp only [ho, resolve, invoke, builtin, Sem.run_bind, Sem.run_pure, Result.andThen_ok, List.map_toArray, List.map_cons, List.map_nil, hs, hx, h1]
  exact hK _ _ (h v' w' h2 h3 h4)
/-- A new slice of the texts. -/
def FreshS (w : World) (l : List (List UInt8)) (e : Ending) (w' : World) : Prop := ∃ v, e = .returned v ∧ Sl w' v l ∧ (∀ j, v.ownBlock = some j → w.heap.size ≤ j) ∧ Below w.heap.size w w'
set_option maxHeartbeats 2000000 in
theorem cloneS_c (v : Value) (l : List (List UInt8)) (w : World) (h : Sl w v l) (hl : l.length ≤ 1000000) : Calls Try.prog 31 #[v] w (FreshS w l) := by
  obtain ⟨A, n, c, rfl, hn, hnc, hcm⟩ := h.formN
  have H := hide h
  have HL : Hid (([] : List (List UInt8)).length + l.length ≤ 2000000) := hide (by simp; omega)
  have HN : Hid (n = l.length) := hn
  have heq := fun (w : World) (A : Option Addr) (n c : Nat) => Lib.run_eql_slice_nil (P := Try.prog) w 37 9 A n c 0 0 Try.underlying37
  clear h hl hn
  cases A with
  | none =>
    have hnil : Hid (l = []) := hide (by
      rcases Nat.eq_zero_or_pos l.length with h0 | h0
      · exact List.eq_nil_of_length_eq_zero h0
      · obtain ⟨ad, e, _⟩ := H.out.cells h0; cases e)
    go_enter Try.func31, Try.ntmps31
    go_wp2_with fail
    go_ret
    exact ⟨_, rfl, by rw [hnil.out]; exact Sl.nil _, (fun j hj => by cases hj), Below.refl _ _⟩
  | some a =>
    go_enter Try.func31, Try.ntmps31
    go_wp2_with (at_builtin; refine wpList_append_sl rfl _ _ rfl w.heap.size (l := []) (m := l) rfl ⟨by simp, .inr ⟨w.heap.size, 0, #[], rfl, Nat.le_refl _, heap_alloc_new w _, Nat.le_refl _, by unfold maxLen; omega, by simp, by simp⟩⟩ rfl (H.out.step ((Below.refl _ _).alloc (Nat.le_refl _) _)) HL.out (by simp) ?_; intro v1 w1 how hg hw)
    go_ret
    have hb : Below w.heap.size w w1 := ((Below.refl _ _).alloc (Nat.le_refl _) _).grown hg (by simp) (fun k hk => by have hk : (some w.heap.size : Option Nat) = some k := hk; injection hk with hk; omega)
    refine ⟨v1, rfl, (Row.sl (l := l) (ownsRow_low (by simpa using how))).sl, fun j hj => ?_, hb⟩
    rcases hw with e | e
    · have e' : v1.ownBlock = some w.heap.size := e
      rw [e'] at hj; injection hj with hj; subst hj; exact Nat.le_refl _
    · rw [e] at hj; injection hj with hj; subst hj; simp
theorem records_c (g d : Nat) (F : List Nat) (D : DS) (J : JS) (rv : Value) (w : World) (h : Jr w g d F D J rv) (hl : J.records.length ≤ 1000000) :
    Calls Try.prog 14 #[.pointer (some ⟨g, 0, none⟩)] w (FreshS w J.records) := by
  have k : w.cell? ⟨g, 3, none⟩ = some rv := h.cells 3
  have HC := hide (cloneS_c rv J.records w h.recs.sl hl)
  obtain ⟨A, n, c, rfl, _, _, _⟩ := h.recs.formN
  clear h
  go_enter Try.func14, Try.ntmps14
  go_wp2_with fail
  refine HC.out.mono ?_
  rintro e w1 ⟨v, rfl, hs, hv, hb⟩
  have HS := hide hs
  have HV := hide hv
  have HB := hide hb
  clear hs hv hb
  go_wp2_with fail
  go_ret
  exact ⟨_, rfl, HS.out, HV.out, HB.out⟩
end Go.Proofs.Ytpadgkkeihhneaa
/- A journal on its disk as a law holds it: all of it new, apart from the law's own blocks; nothing fails. -/
namespace Go.Proofs.Ytpadgkkeihhneaa
set_option maxRecDepth 100000
set_option linter.unusedSimpArgs false
set_option linter.unusedVariables false
open Go.ChangeShapes Go.WideShapes Go.ChangeAt Go.RowKit
set_option linter.unusedVariables false
set_option linter.unusedSimpArgs false

theorem zero_turn : (rd0 (List.replicate 128 0)).2 = 0 := by decide +kernel
theorem hdrOf_zero (i : Nat) : hdrOf i (List.replicate 128 0) = 0 := by
  unfold hdrOf
  split
  · exact zero_turn
  · rfl
theorem content_new (n i : Nat) (h : i < n) : content (dNew n) i = List.replicate 128 0 := by
  rw [content_calm rfl]
  show (List.replicate n (List.replicate 128 0)).getD i [] = _
  rw [List.getD_eq_getElem?_getD, List.getElem?_replicate, if_pos h]
  rfl
theorem prtOf_turn {b : List UInt8} {x : Prt} (h : prtOf b = some x) : x.turn = (rd0 b).2 := by
  unfold prtOf at h
  split at h
  · injection h with h
    rw [← h]
    rfl
  · cases h
theorem dNew_good (n : Nat) (h8 : 8 ≤ n) (h4 : n ≤ 4096) : Good (dNew n) js0 := by
  have hl : (dNew n).pages.length = n := List.length_replicate
  refine ⟨by rw [hl]; exact h8, by rw [hl]; exact h4, rfl, rfl, fun _ => rfl, by show 0 < _; decide, by show 0 + 1 < _; decide, fun _ => ?_, fun h => ?_, fun h => ?_, fun i h2 hi x hx => ?_, fun h => ?_⟩
  · rw [content_new n 0 (by omega), content_new n 1 (by omega)]
    exact ⟨hdrOf_zero 0, .inr ⟨rfl, hdrOf_zero 1⟩⟩
  · exact absurd h (by decide)
  · exact absurd h (by decide)
  · rw [hl] at hi
    rw [content_new n i hi] at hx
    rw [prtOf_turn hx, zero_turn]
    exact Nat.zero_le _
  · exact absurd h (by decide)
theorem Lay.len {D : DS} {t i a : Nat} {l : List (List UInt8)} {u : Nat} (h : Lay D t i a l u) : a + l.length ≤ u := by
  induction l generalizing i a with
  | nil => exact Nat.le_of_eq h
  | cons s l ih => have := ih h.2.2; have := pagesN_pos s.length; rw [List.length_cons]; omega
theorem Good.used {D : DS} {J : JS} (h : Good D J) : J.used ≤ half D ∧ J.records.length ≤ half D := by
  by_cases h0 : J.turn = 0
  · rw [h.zero h0]; exact ⟨Nat.zero_le _, Nat.zero_le _⟩
  · have hl := h.lay (by omega)
    have := hl.used_le
    have h2 := hl.len
    rw [List.length_cons] at h2
    omega
theorem Good.jok {D : DS} {J : JS} (h : Good D J) : JOk D J := by
  have := h.used
  have := h.top
  have hh : half D ≤ 4096 := by unfold half; omega
  exact ⟨by have := h.turn; omega, h.used.1, by omega⟩
theorem Good.sz {D : DS} {J : JS} (h : Good D J) (c : Calm D) : D.Sz := ⟨h.len, by have := h.top; omega, by rw [c.pend]; exact Nat.zero_le _⟩

/-- Blocks of X are as they were. -/
def Away (X : List Nat) (w w' : World) : Prop := ∃ S, Touch S w w' ∧ ∀ j ∈ X, j ∉ S
theorem Away.size {X : List Nat} {w w' : World} (h : Away X w w') : w.heap.size ≤ w'.heap.size := by obtain ⟨S, h, _⟩ := h; exact h.size
theorem Away.strs {X : List Nat} {w w' : World} {v : Value} {l : List (List UInt8)} (h : Away X w w') (hs : Strs w v l) (hv : ∀ j, v.ownBlock = some j → j ∈ X) : Strs w' v l := by
  obtain ⟨S, h, hx⟩ := h
  exact hs.touch h fun j hj => hx j (hv j hj)
/-- A disk that is new since w0 and lies apart from X. -/
structure DkS (w0 : World) (X : List Nat) (w : World) (d : Nat) (D : DS) : Prop where
  dk : ∃ F, Disk w d F D ∧ ∀ j ∈ F, w0.heap.size ≤ j ∧ j ∉ X
  below : Below w0.heap.size w0 w
  lt : ∀ j ∈ X, j < w.heap.size
/-- A journal on such a disk. -/
structure Sess (w0 : World) (X : List Nat) (w : World) (d g : Nat) (D : DS) (J : JS) : Prop where
  jn : ∃ G, Jn w g d G D J ∧ ∀ j ∈ G, w0.heap.size ≤ j ∧ j ∉ X
  below : Below w0.heap.size w0 w
  lt : ∀ j ∈ X, j < w.heap.size
theorem Sess.dk {w0 w : World} {X : List Nat} {d g : Nat} {D : DS} {J : JS} (h : Sess w0 X w d g D J) : DkS w0 X w d D := by
  obtain ⟨⟨G, ⟨F, rv, hj, hF, _⟩, hG⟩, hb, hl⟩ := h
  exact ⟨⟨F, hj.disk, fun j hm => hG j (hF j hm)⟩, hb, hl⟩
theorem Jn.step {w w' : World} {g d : Nat} {G : List Nat} {D : DS} {J : JS} (h : Jn w g d G D J) (k : Below w.heap.size w w') : Jn w' g d G D J := by
  obtain ⟨F, rv, h1, h2, h3, h4, h5⟩ := h
  exact ⟨F, rv, h1.step k, h2, h3, h4, fun j hj => Nat.lt_of_lt_of_le (h5 j hj) k.size⟩
theorem Below.touch_up {S : List Nat} {a w w' : World} (hb : Below a.heap.size a w) (h : Touch S w w') (hS : ∀ s ∈ S, a.heap.size ≤ s) : Below a.heap.size a w' := Below.touch hb h hS hb.size
theorem Below.trans_up {w0 w w' : World} (h : Below w0.heap.size w0 w) (k : Below w.heap.size w w') : Below w0.heap.size w0 w' :=
  Below.touch_up h (Touch.below k []) (by simp)
theorem Sess.step {w0 w w' : World} {X : List Nat} {d g : Nat} {D : DS} {J : JS} (h : Sess w0 X w d g D J) (k : Below w.heap.size w w') : Sess w0 X w' d g D J := by
  obtain ⟨⟨G, hj, hG⟩, hb, hl⟩ := h
  exact ⟨⟨G, hj.step k, hG⟩, Below.trans_up hb k, fun j hm => Nat.lt_of_lt_of_le (hl j hm) k.size⟩
theorem DkS.step {w0 w w' : World} {X : List Nat} {d : Nat} {D : DS} (h : DkS w0 X w d D) (k : Below w.heap.size w w') : DkS w0 X w' d D := by
  obtain ⟨⟨F, hj, hG⟩, hb, hl⟩ := h
  exact ⟨⟨F, hj.step k, hG⟩, Below.trans_up hb k, fun j hm => Nat.lt_of_lt_of_le (hl j hm) k.size⟩
/-- Another block is set apart. -/
theorem Sess.more {w0 w w' : World} {X : List Nat} {d g : Nat} {D : DS} {J : JS} (h : Sess w0 X w d g D J) (k : Below w.heap.size w w') (Y : List Nat) (hY : ∀ y ∈ Y, y ∈ X ∨ w.heap.size ≤ y ∧ y < w'.heap.size) : Sess w0 Y w' d g D J := by
  obtain ⟨⟨G, hj, hG⟩, hb, hl⟩ := h
  refine ⟨⟨G, hj.step k, fun j hm => ⟨(hG j hm).1, fun hy => ?_⟩⟩, Below.trans_up hb k, fun j hm => ?_⟩
  · rcases hY j hy with h1 | h1
    · exact (hG j hm).2 h1
    · obtain ⟨F, rv, _, _, _, _, h5⟩ := hj
      have := h5 j hm
      omega
  · rcases hY j hm with h1 | h1
    · exact Nat.lt_of_lt_of_le (hl j h1) k.size
    · exact h1.2

/-- The disk does not fail, and has the journal. -/
def SesZ (w0 : World) (X : List Nat) (w : World) (d g n : Nat) (J : JS) : Prop := ∃ D, Sess w0 X w d g D J ∧ Calm D ∧ Good D J ∧ D.pages.length = n
def DkZ (w0 : World) (X : List Nat) (w : World) (d n : Nat) (J : JS) : Prop := ∃ D, DkS w0 X w d D ∧ Calm D ∧ Good D J ∧ D.pages.length = n
theorem SesZ.step {w0 w w' : World} {X : List Nat} {d g n : Nat} {J : JS} (h : SesZ w0 X w d g n J) (k : Below w.heap.size w w') : SesZ w0 X w' d g n J := by
  obtain ⟨D, h, r⟩ := h
  exact ⟨D, h.step k, r⟩
theorem SesZ.more {w0 w w' : World} {X : List Nat} {d g n : Nat} {J : JS} (h : SesZ w0 X w d g n J) (k : Below w.heap.size w w') (Y : List Nat) (hY : ∀ y ∈ Y, y ∈ X ∨ w.heap.size ≤ y ∧ y < w'.heap.size) : SesZ w0 Y w' d g n J := by
  obtain ⟨D, h, r⟩ := h
  exact ⟨D, h.more k Y hY, r⟩
theorem SesZ.dk {w0 w : World} {X : List Nat} {d g n : Nat} {J : JS} (h : SesZ w0 X w d g n J) : DkZ w0 X w d n J := by
  obtain ⟨D, h, r⟩ := h
  exact ⟨D, h.dk, r⟩
theorem SesZ.below {w0 w : World} {X : List Nat} {d g n : Nat} {J : JS} (h : SesZ w0 X w d g n J) : Below w0.heap.size w0 w := by obtain ⟨D, h, _⟩ := h; exact h.below
theorem DkZ.below {w0 w : World} {X : List Nat} {d n : Nat} {J : JS} (h : DkZ w0 X w d n J) : Below w0.heap.size w0 w := by obtain ⟨D, h, _⟩ := h; exact h.below
theorem JDoes.sess {w0 w w' : World} {X G : List Nat} {d g : Nat} {r : DS × JS × Int} {e : Ending} (hG : ∀ j ∈ G, w0.heap.size ≤ j ∧ j ∉ X) (hb : Below w0.heap.size w0 w) (hl : ∀ j ∈ X, j < w.heap.size) (h : JDoes w g d G r e w') :
    e = .returned (.int .i64 r.2.2) ∧ Sess w0 X w' d g r.1 r.2.1 ∧ Away X w w' := by
  obtain ⟨he, G', hj, ht, hG'⟩ := h
  refine ⟨he, ⟨⟨G', hj, fun j hm => ?_⟩, Below.touch_up hb ht (fun j hm => (hG j hm).1), fun j hm => Nat.lt_of_lt_of_le (hl j hm) ht.size⟩, G, ht, fun j hm hx => (hG j hx).2 hm⟩
  rcases hG' j hm with h1 | h1
  · exact hG j h1
  · exact ⟨Nat.le_trans hb.size h1, fun hx => by have := hl j hx; omega⟩
theorem save_z {w0 w : World} {X : List Nat} {d g n : Nat} {J : JS} (h : SesZ w0 X w d g n J) (s : List UInt8) (S : ByteArray) (hS : S = ⟨s.toArray⟩) (hl : s.length ≤ 1000000) (hu : pagesN s.length ≤ (n - 2) / 2) (ht : J.turn + 1 < 2 ^ 40) :
    Calls Try.prog 7 #[.pointer (some ⟨g, 0, none⟩), .string S] w fun e w' => e = .returned (.int .i64 0) ∧ SesZ w0 X w' d g n ⟨J.turn + 1, s, [], pagesN s.length, false⟩ ∧ Away X w w' := by
  obtain ⟨D, ⟨⟨G, hj, hG⟩, hb, hlt⟩, c, hg, hn⟩ := h
  have hh : half D = (n - 2) / 2 := by unfold half; rw [hn]
  obtain ⟨D', e', c', hl', hg'⟩ := jSave_good c hg s (by omega) ht
  refine (jsave_c g d G D J s S hS hl w hj (hg.sz c) (by rw [c.pend]; simp) hg.jok).mono ?_
  intro e w' hd
  obtain ⟨he, hs, ha⟩ := hd.sess hG hb hlt
  rw [e'] at he hs
  exact ⟨he, ⟨D', hs, c', hg', hl'.trans hn⟩, ha⟩
theorem append_z {w0 w : World} {X : List Nat} {d g n : Nat} {J : JS} (h : SesZ w0 X w d g n J) (s : List UInt8) (S : ByteArray) (hS : S = ⟨s.toArray⟩) (hl : s.length ≤ 1000000) (h0 : 0 < J.turn) (hu : J.used + pagesN s.length ≤ (n - 2) / 2) (hr : J.records.length + 2 < 2 ^ 40) :
    Calls Try.prog 8 #[.pointer (some ⟨g, 0, none⟩), .string S] w fun e w' => e = .returned (.int .i64 0) ∧ SesZ w0 X w' d g n { J with records := J.records ++ [s], used := J.used + pagesN s.length } ∧ Away X w w' := by
  obtain ⟨D, ⟨⟨G, hj, hG⟩, hb, hlt⟩, c, hg, hn⟩ := h
  have hh : half D = (n - 2) / 2 := by unfold half; rw [hn]
  obtain ⟨D', e', c', hl', hg'⟩ := jAppend_good c hg s h0 (by omega) hr
  refine (jappend_c g d G D J s S hS hl w hj (hg.sz c) (by rw [c.pend]; simp) hg.jok).mono ?_
  intro e w' hd
  obtain ⟨he, hs, ha⟩ := hd.sess hG hb hlt
  rw [e'] at he hs
  exact ⟨he, ⟨D', hs, c', hg', hl'.trans hn⟩, ha⟩
theorem is_nil (w : World) : Is w (.slice none 0 0) [] := ⟨none, 0, rfl, Nat.le_refl _, by unfold maxLen; omega, (fun x hx => by cases hx), fun h => by simp at h⟩
theorem crash_z {w0 w : World} {X : List Nat} {d n : Nat} {J : JS} (h : DkZ w0 X w d n J) :
    Calls Try.prog 10 #[.pointer (some ⟨d, 0, none⟩), .slice none 0 0] w fun e w' => e = .returned (.tuple #[]) ∧ DkZ w0 X w' d n J ∧ Away X w w' := by
  obtain ⟨D, ⟨⟨F, hd, hF⟩, hb, hlt⟩, c, hg, hn⟩ := h
  refine (crash_c d F D (.slice none 0 0) [] w hd (is_nil w) (fun j hj => by cases hj)).mono ?_
  rintro e w' ⟨he, F', hd', ht, hF'⟩
  rw [dCrash_calm c] at hd'
  refine ⟨he, ⟨D, ⟨⟨F', hd', fun j hm => ?_⟩, Below.touch_up hb ht (fun j hm => (hF j hm).1), fun j hm => Nat.lt_of_lt_of_le (hlt j hm) ht.size⟩, c, hg, hn⟩, F, ht, fun j hm hx => (hF j hx).2 hm⟩
  rcases hF' j hm with h1 | h1
  · exact hF j h1
  · exact ⟨Nat.le_trans hb.size h1, fun hx => by have := hlt j hx; omega⟩
theorem open_z {w0 w : World} {X : List Nat} {d n : Nat} {J : JS} (h : DkZ w0 X w d n J) :
    Calls Try.prog 6 #[.pointer (some ⟨d, 0, none⟩)] w fun e w' => ∃ g, e = .returned (.tuple #[.pointer (some ⟨g, 0, none⟩), .int .i64 0]) ∧ SesZ w0 X w' d g n J ∧ Away X w w' := by
  obtain ⟨D, ⟨⟨F, hd, hF⟩, hb, hlt⟩, c, hg, hn⟩ := h
  refine (jopen_c d F D w hd (by rw [c.pend]; simp) (by have := hg.top; omega)).mono ?_
  intro e w' ho
  rw [jOpen_good hg] at ho
  obtain ⟨F', ht, hF', hlt', hd', hr⟩ := ho
  dsimp only at hr hd'
  rw [if_pos rfl] at hr
  obtain ⟨g, rv, he, hj, hgn, hrn⟩ := hr
  have hnew : ∀ j, w.heap.size ≤ j → w0.heap.size ≤ j ∧ j ∉ X := fun j h1 => ⟨Nat.le_trans hb.size h1, fun hx => by have := hlt j hx; omega⟩
  refine ⟨g, he, ⟨D, ⟨⟨g :: (F' ++ rv.ownBlock.toList), ⟨F', rv, hj, fun j hj => by simp [hj], fun j hj => by simp [hj], by simp, fun j hm => ?_⟩, fun j hm => ?_⟩, Below.touch_up hb ht (fun j hm => (hF j hm).1), fun j hm => Nat.lt_of_lt_of_le (hlt j hm) ht.size⟩, c, hg, hn⟩, F, ht, fun j hm hx => (hF j hx).2 hm⟩
  · rcases List.mem_cons.1 hm with rfl | hm
    · exact hj.glt
    · rcases List.mem_append.1 hm with hm | hm
      · exact hlt' j hm
      · exact hj.rlt j (by simpa using hm)
  · rcases List.mem_cons.1 hm with rfl | hm
    · exact hnew _ hgn
    · rcases List.mem_append.1 hm with hm | hm
      · rcases hF' j hm with h1 | h1
        · exact hF j h1
        · exact hnew j h1
      · exact hnew j (hrn j (by simpa using hm))
theorem new_z (n : Nat) (h8 : 8 ≤ n) (h4 : n ≤ 4096) (w0 w : World) (hb : Below w0.heap.size w0 w) :
    Calls Try.prog 5 #[.int .i64 n] w fun e w' => ∃ d, e = .returned (.tuple #[.pointer (some ⟨d, 0, none⟩), .int .i64 0]) ∧ DkZ w0 [] w' d n js0 := by
  refine (new_c n (by omega) h4 w).mono ?_
  rintro e w' ⟨d, F, he, hd, hb', hF⟩
  exact ⟨d, he, dNew n, ⟨⟨F, hd, fun j hj => ⟨Nat.le_trans hb.size (hF j hj), by simp⟩⟩, Below.trans_up hb hb', by simp⟩, dNew_calm n, dNew_good n h8 h4, List.length_replicate⟩
theorem turn_z {w0 w : World} {X : List Nat} {d g n : Nat} {J : JS} (h : SesZ w0 X w d g n J) :
    Calls Try.prog 11 #[.pointer (some ⟨g, 0, none⟩)] w fun e w' => e = .returned (.int .i64 J.turn) ∧ w = w' := by
  obtain ⟨D, ⟨⟨G, ⟨F, rv, hj, _⟩, hG⟩, hb, hlt⟩, _⟩ := h
  exact turn_c g d F D J rv w hj
theorem state_z {w0 w : World} {X : List Nat} {d g n : Nat} {J : JS} (h : SesZ w0 X w d g n J) :
    Calls Try.prog 12 #[.pointer (some ⟨g, 0, none⟩)] w fun e w' => e = .returned (sv J.state) ∧ w = w' := by
  obtain ⟨D, ⟨⟨G, ⟨F, rv, hj, _⟩, hG⟩, hb, hlt⟩, _⟩ := h
  exact state_c g d F D J rv w hj
theorem records_z {w0 w : World} {X : List Nat} {d g n : Nat} {J : JS} (h : SesZ w0 X w d g n J) :
    Calls Try.prog 14 #[.pointer (some ⟨g, 0, none⟩)] w (FreshS w J.records) := by
  obtain ⟨D, ⟨⟨G, ⟨F, rv, hj, _⟩, hG⟩, hb, hlt⟩, c, hg, _⟩ := h
  exact records_c g d F D J rv w hj (by have := hg.jok.recs; omega)
end Go.Proofs.Ytpadgkkeihhneaa
/- The chapter's example. -/
namespace Go.Proofs.Ytpadgkkeihhneaa
set_option maxRecDepth 100000
set_option linter.unusedSimpArgs false
set_option linter.unusedVariables false
open Go.ChangeShapes Go.WideShapes Go.ChangeAt Go.RowKit
set_option linter.unusedVariables false
set_option linter.unusedSimpArgs false

set_option maxRecDepth 100000 in
set_option maxHeartbeats 4000000 in
theorem awake_c (w : World) : Calls Try.prog 4 #[] w fun e w' => e = .returned (.bool true) ∧ Below w.heap.size w w' := by
  go_enter Try.func4, Try.ntmps4
  go_wp2_with fail
  refine (new_z 20 (by decide) (by decide) w w (Below.refl _ _)).mono ?_
  rintro e w1 ⟨d, rfl, hz⟩
  have HZ := hide hz
  clear hz
  go_wp2_with fail
  refine (open_z HZ.out).mono ?_
  rintro e w2 ⟨g, rfl, hz, _⟩
  replace HZ := hide hz
  clear hz
  go_wp2_with fail
  refine (save_z HZ.out [97] _ rfl (by decide) (by decide) (by decide)).mono ?_
  rintro e w3 ⟨rfl, hz, _⟩
  replace HZ := hide hz
  clear hz
  go_wp2_with fail
  refine (append_z HZ.out [98] _ rfl (by decide) (by decide) (by decide) (by decide)).mono ?_
  rintro e w4 ⟨rfl, hz, _⟩
  replace HZ := hide hz.dk
  clear hz
  go_wp2_with fail
  refine (crash_z HZ.out).mono ?_
  rintro e w5 ⟨rfl, hz, _⟩
  replace HZ := hide hz
  clear hz
  go_wp2_with fail
  refine (open_z HZ.out).mono ?_
  rintro e w6 ⟨g2, rfl, hz, _⟩
  replace HZ := hide hz
  clear hz
  go_wp2_with fail
  refine (state_z HZ.out).mono ?_
  rintro e w7 ⟨he, rfl⟩
  replace he : e = .returned (.string ⟨#[97]⟩) := he
  subst he
  go_wp2_with fail
  refine (records_z HZ.out).mono ?_
  rintro e w7 ⟨v, rfl, hs, _, hb⟩
  obtain ⟨A, n, c, rfl, hn, _, _⟩ := hs.formN
  obtain rfl : n = 1 := hn.out
  replace HZ := hide (HZ.out.step hb)
  clear hs hb hn
  go_wp2_with fail
  refine (records_z HZ.out).mono ?_
  rintro e w8 ⟨v, rfl, hs, _, hb⟩
  obtain ⟨A2, n, c2, rfl, hn, _, _⟩ := hs.formN
  obtain rfl : n = 1 := hn.out
  obtain ⟨b, off, rfl, _, hc⟩ := hs.at_ 0 (by show 0 < 1; omega)
  replace hc : w8.cell? ⟨b, off, none⟩ = some (.string ⟨#[98]⟩) := hc
  replace HZ := hide (HZ.out.step hb)
  clear hs hb hn
  go_wp2_with fail
  refine (turn_z HZ.out).mono ?_
  rintro e w9 ⟨he, rfl⟩
  replace he : e = .returned (.int .i64 1) := he
  subst he
  go_wp2_with fail
  refine (pages_fn 97 (by decide) _).mono ?_
  rintro e w9 ⟨he, rfl⟩
  replace he : e = .returned (.int .i64 2) := he
  subst he
  go_wp2_with fail
  go_ret
  exact ⟨rfl, HZ.out.below⟩
end Go.Proofs.Ytpadgkkeihhneaa
/- The text of an operation; equal lists of texts. -/
namespace Go.Proofs.Ytpadgkkeihhneaa
set_option maxRecDepth 100000
set_option linter.unusedSimpArgs false
set_option linter.unusedVariables false
open Go.ChangeShapes Go.WideShapes Go.ChangeAt Go.RowKit
set_option linter.unusedVariables false
set_option linter.unusedSimpArgs false

/-- n bytes from f on, the next one after fifty. -/
def jText (n f : Nat) : List UInt8 := (List.range n).map fun i => UInt8.ofNat (f + i / 50)
theorem jText_len (n f : Nat) : (jText n f).length = n := by unfold jText; simp
theorem jText_succ (n f : Nat) : jText (n + 1) f = jText n f ++ [UInt8.ofNat (f + n / 50)] := by unfold jText; rw [List.range_succ, List.map_append]; rfl
/-- The first k of n bytes are the text's. -/
def fillT (f n k : Nat) : List Value := (jText k f ++ List.replicate (n - k) 0).map bv
theorem fillT_set (f n k : Nat) (h : k < n) : (fillT f n k).set k (bv (UInt8.ofNat (f + k / 50))) = fillT f n (k + 1) := by
  unfold fillT
  rw [jText_succ, show n - k = (n - (k + 1)) + 1 by omega, List.replicate_succ, List.map_append, List.map_append, List.map_append, List.map_cons, List.set_append_right _ _ (by rw [List.length_map, jText_len]; omega),
    List.length_map, jText_len, Nat.sub_self, List.set_cons_zero, List.append_assoc]
  rfl
theorem fillT_get (f n k : Nat) (h : k < n) : (fillT f n k)[k]? = some (bv 0) := by
  unfold fillT
  rw [List.map_append, List.getElem?_append_right (by rw [List.length_map, jText_len]; omega), List.length_map, jText_len, Nat.sub_self, List.map_replicate, List.getElem?_replicate, if_pos (by omega)]
theorem fillT_zero (f n : Nat) : (fillT f n 0).toArray = zb n := by
  unfold fillT zb
  apply Array.ext'
  simp [jText]
theorem fillT_all (f n : Nat) : fillT f n n = (jText n f).map bv := by unfold fillT; simp
theorem bv_step (f k : Nat) (hf : f ≤ 255) (hk : k < 400) : bv (UInt8.ofNat (f + k / 50)) = .int .u8 (((f : Int) + (k : Int) / 50) % 256) := by
  unfold bv u8
  rw [UInt8.toNat_ofNat']
  congr 1

set_option maxHeartbeats 2000000 in
theorem text_c (k N m : Int) (f : Nat) (hf8 : f ≤ 255) (hN : -9223372036854775808 ≤ N ∧ N ≤ 9223372036854775807) (s : Value) (hs : s.oneCell' = true) (w : World) :
    Calls Try.prog 9 #[.agg ([.int .i64 k, .int .i64 N, .int .i64 m, .int .u8 f, s] : List Value).toArray] w fun e w' => e = .returned (.string ⟨(jText ((max 0 N) % 400).toNat f).toArray⟩) ∧ Below w.heap.size w w' := by
  obtain ⟨n, hn⟩ : ∃ n, n = ((max 0 N) % 400).toNat := ⟨_, rfl⟩
  have hn4 : n < 400 := by omega
  have HN : Hid ((max 0 N) % 400 = (n : Int)) := hide (by omega)
  have hm := fun W => run_make_bytes n (by omega) W
  obtain ⟨p, hp⟩ : ∃ p : Int, p = max 0 N := ⟨_, rfl⟩
  have HP := hide hp
  have hp0 : 0 ≤ p := by omega
  have hpi : p ≤ 9223372036854775807 := by omega
  rw [← hn]
  have HO := hide (Own.nil w [] (by simp))
  clear hn hp
  go_enter Try.func9, Try.ntmps9
  go_wp2_with fail
  rw [HN.out, hm]
  have hO1 := HO.out.push (t := 36) (cs := [.int .i64 k, .int .i64 N, .int .i64 m, .int .u8 f, s]) (Blk.new w _ _) ((Below.refl _ _).alloc (Nat.le_refl _) _)
  generalize w.alloc (.cells ([.int .i64 k, .int .i64 N, .int .i64 m, .int .u8 f, s] : List Value).toArray 36) = wa at *
  have hO2 := hO1.push (t := 5) (cs := fillT f n 0) (by rw [fillT_zero]; exact Blk.new _ _ _) ((Below.refl _ _).alloc (Nat.le_refl _) _)
  generalize wa.alloc (.cells (zb n) 5) = wb at *
  generalize wa.heap.size = b2 at *
  replace HO := hide hO2
  clear hO1 hO2 hm
  go_wp2_with fail
  go_loopw [12] (fun i wr => ∃ k2 : Nat, k2 ≤ n ∧ i = .int .i64 k2 ∧ Own w [] [(w.heap.size, 36, [.int .i64 k, .int .i64 N, .int .i64 m, .int .u8 f, s]), (b2, 5, fillT f n k2)] wr) (fun i _ => n - (intOf i).toNat)
  case atStart => exact ⟨0, by omega, rfl, HO.out⟩
  case round =>
    clear HO
    obtain ⟨k2, hk, rfl, ho⟩ := hrel
    have HO := hide ho
    clear ho
    by_cases hlt : k2 < n
    · have k0 := HO.out.cells 0 rfl
      have hc : wr.cell? ⟨b2, k2, none⟩ = some (.int .u8 0) := by rw [HO.out.cells 1 rfl]; exact fillT_get f n k2 hlt
      have hf := HO.out.froz 1 rfl k2
      have q0 : (k2 : Int) / 50 % 256 = (k2 : Int) / 50 := by omega
      go_wp2_with fail
      go_roundw
      case rel =>
        refine ⟨k2 + 1, by omega, by go_num, ?_⟩
        have := HO.out.set 1 rfl k2 (bv (UInt8.ofNat (f + k2 / 50)))
        rw [fillT_set f n k2 hlt, bv_step f k2 hf8 (by omega)] at this
        exact this
      case measure => simp [intOf]; omega
    · obtain rfl : k2 = n := by omega
      have hbs : Bs wr (.slice (some ⟨b2, 0, none⟩) k2 k2) (jText k2 f) := Bs.blk (HO.out.blk 1 rfl) (by rw [List.toList_toArray, fillT_all]) k2 (jText_len k2 f).symm (by rw [jText_len]; unfold maxLen; omega)
      have hst := run_string_bs hbs
      go_wp2_with fail
      go_ret
      exact ⟨rfl, HO.out.below⟩
set_option maxHeartbeats 2000000 in
theorem same_c (v1 v2 : Value) (l1 l2 : List (List UInt8)) (w : World) (h1 : Sl w v1 l1) (h2 : Sl w v2 l2) (hl : l1.length ≤ 1000000) :
    Calls Try.prog 13 #[v1, v2] w fun e w' => e = .returned (.bool (decide (l1 = l2))) ∧ Below w.heap.size w w' := by
  obtain ⟨A1, n1, c1, rfl, hn1, _, _⟩ := h1.formN
  obtain ⟨A2, n2, c2, rfl, hn2, _, _⟩ := h2.formN
  have HS1 := hide h1
  have HS2 := hide h2
  have HN1 : Hid (n1 = l1.length) := hn1
  have HN2 : Hid (n2 = l2.length) := hn2
  have hn6 : n1 ≤ 1000000 := by rw [HN1.out]; exact hl
  clear h1 h2 hn1 hn2 hl
  by_cases hq : n1 = n2
  · subst hq
    go_enter Try.func13, Try.ntmps13
    go_wp2_with fail
    go_loopw [13] (fun i wr => ∃ k : Nat, k ≤ n1 ∧ i = .int .i64 k ∧ (∀ j, j < k → l1.getD j [] = l2.getD j []) ∧ Below w.heap.size w wr) (fun i _ => n1 - (intOf i).toNat)
    case atStart => exact ⟨0, by omega, rfl, (fun j hj => by omega), Below.refl _ _⟩
    case round =>
      obtain ⟨k, hk, rfl, heq, hb⟩ := hrel
      have HE := hide heq
      have HB := hide hb
      clear heq hb
      by_cases hlt : k < n1
      · obtain ⟨ba, oa, rfl, _, hxa⟩ := (HS1.out.step HB.out).at_ k (by rw [← HN1.out]; exact hlt)
        obtain ⟨bb, ob, rfl, _, hxb⟩ := (HS2.out.step HB.out).at_ k (by rw [← HN2.out]; exact hlt)
        obtain ⟨x, hx⟩ : ∃ x, l1.getD k [] = x := ⟨_, rfl⟩
        obtain ⟨y, hy⟩ : ∃ y, l2.getD k [] = y := ⟨_, rfl⟩
        rw [hx] at hxa
        rw [hy] at hxb
        replace hxa : wr.cell? ⟨ba, oa + k, none⟩ = some (.string ⟨x.toArray⟩) := hxa
        replace hxb : wr.cell? ⟨bb, ob + k, none⟩ = some (.string ⟨y.toArray⟩) := hxb
        have HX := hide hx
        have HY := hide hy
        clear hx hy
        by_cases he : x = y
        · have hd : (x == y) = true := by simpa using he
          go_wp2_with fail
          go_region
          go_wp2_with fail
          go_roundw
          case rel =>
            refine ⟨k + 1, by omega, by go_num, fun j hj => ?_, HB.out.drew⟩
            rcases Nat.lt_or_ge j k with h3 | h3
            · exact HE.out j h3
            · obtain rfl : j = k := by omega
              rw [HX.out, HY.out, he]
          case measure => simp [intOf]; omega
        · have hd : (x == y) = false := by simpa using he
          go_wp2_with fail
          go_region
          go_wp2_with fail
          go_ret
          refine ⟨congrArg (fun b => Ending.returned (.bool b)) (?_ : false = decide (l1 = l2)), HB.out.drew⟩
          rw [decide_eq_false]
          intro h3
          exact he (by rw [← HX.out, ← HY.out, h3])
      · obtain rfl : k = n1 := by omega
        go_wp2_with fail
        go_ret
        refine ⟨congrArg (fun b => Ending.returned (.bool b)) (?_ : true = decide (l1 = l2)), HB.out⟩
        rw [decide_eq_true]
        refine List.ext_getElem (HN1.out.symm.trans HN2.out) fun j h3 h4 => ?_
        have := HE.out j (by rw [HN1.out]; exact h3)
        simpa [List.getD, h3, h4] using this
  · have hd : ((n1 : Int) != (n2 : Int)) = true := by simp; omega
    go_enter Try.func13, Try.ntmps13
    go_wp2_with fail
    go_ret
    refine ⟨congrArg (fun b => Ending.returned (.bool b)) (?_ : false = decide (l1 = l2)), Below.refl _ _⟩
    rw [decide_eq_false]
    intro h3
    exact hq (by rw [HN1.out, HN2.out, h3])
end Go.Proofs.Ytpadgkkeihhneaa
/- JournalTurns: the walk. -/
namespace Go.Proofs.Ytpadgkkeihhneaa
set_option maxRecDepth 100000
set_option linter.unusedSimpArgs false
set_option linter.unusedVariables false
open Go.ChangeShapes Go.WideShapes Go.ChangeAt Go.RowKit
set_option linter.unusedVariables false
set_option linter.unusedSimpArgs false

theorem wpList_append_strs {ops : Array Oper} {rest : List Oper} {o : Oper} {a : Act} {w : World} {Q : Exit → Act → World → Prop} (hgd : o.guard = none) (s x : Operand)
    (ho : o.op = .call { callee := .builtin .append, args := #[s, x], argTypes := #[37, 37] }) {v : Value} {l : List (List UInt8)} (hv : Strs w v l) (hs : a.eval s = v) {g c : Nat} {t : List UInt8} (hx : a.eval x = .slice (some ⟨g, 0, none⟩) 1 c)
    (hc : w.cell? ⟨g, 0, none⟩ = some (sv t)) (hlen : l.length ≤ 1000000)
    (h : ∀ v' w', Strs w' v' (l ++ [t]) → w.grownBy w' v.ownBlock → (v'.ownBlock = v.ownBlock ∨ v'.ownBlock = some w.heap.size) → wpList Try.prog ops Q rest (a.put o.dst v') w') : wpList Try.prog ops Q (o :: rest) a w := by
  refine wpList_plain hgd fun K hK => ?_
  obtain ⟨v', w', hr, h2, h3, h4⟩ := run_append_strs o.type hv g c t hc hlen
  unfold Oper.wp execOp
  simp only [ho, resolve, invoke, builtin, Sem.run_bind, Sem.run_pure, Result.andThen_ok, List.map_toArray, List.map_cons, List.map_nil, hs, hx, hr]
  exact hK _ _ (h v' w' h2 h3 h4)
theorem Jn.touch {S : List Nat} {w w' : World} {g d : Nat} {G : List Nat} {D : DS} {J : JS} (h : Jn w g d G D J) (k : Touch S w w') (hS : ∀ j ∈ G, j ∉ S) : Jn w' g d G D J := by
  obtain ⟨F, rv, h1, h2, h3, h4, h5⟩ := h
  exact ⟨F, rv, h1.touch k (hS g h4) (fun j hj => hS j (h3 j hj)) (fun j hj => hS j (h2 j hj)), h2, h3, h4, fun j hj => Nat.lt_of_lt_of_le (h5 j hj) k.size⟩
theorem SesZ.touch {S X Y : List Nat} {w0 w w' : World} {d g n : Nat} {J : JS} (h : SesZ w0 X w d g n J) (k : Touch S w w') (hS : ∀ s ∈ S, s ∈ X ∧ w0.heap.size ≤ s) (hY : ∀ y ∈ Y, (y ∈ X ∨ w.heap.size ≤ y) ∧ y < w'.heap.size) : SesZ w0 Y w' d g n J := by
  obtain ⟨D, ⟨⟨G, hj, hG⟩, hb, hl⟩, r⟩ := h
  refine ⟨D, ⟨⟨G, hj.touch k fun j hm hs => (hG j hm).2 (hS j hs).1, fun j hm => ⟨(hG j hm).1, fun hy => ?_⟩⟩, Below.touch_up hb k (fun s hs => (hS s hs).2), fun j hm => (hY j hm).2⟩, r⟩
  rcases (hY j hy).1 with h1 | h1
  · exact (hG j hm).2 h1
  · obtain ⟨F, rv, _, _, _, _, h5⟩ := hj
    have := h5 j hm
    omega
theorem grown_touch {w w' : World} {v : Value} (h : w.grownBy w' v.ownBlock) : Touch v.ownBlock.toList w w' :=
  ⟨h.os, h.tape, h.output, h.size, fun k hk hne => h.block k hk (fun e => hne (by rw [← e]; simp))⟩

/-- The texts that a list of numbers stands for. -/
def recsOf (l : List Int) (f : Nat) : List (List UInt8) := l.map fun x => jText (x % 200).toNat f
theorem recsOf_len (l : List Int) (f : Nat) : (recsOf l f).length = l.length := by unfold recsOf; simp
theorem recsOf_take (l : List Int) (f k : Nat) (h : k < l.length) : (recsOf l f).take (k + 1) = (recsOf l f).take k ++ [jText (l[k] % 200).toNat f] := by
  rw [List.take_succ_eq_append_getElem (by rw [recsOf_len]; exact h)]
  simp [recsOf]
theorem pagesN_two (n : Nat) (h : n < 200) : pagesN n ≤ 3 := by unfold pagesN; omega
/-- The journal behind k records of the turn. -/
structure Turned (J : JS) (t k : Nat) (l : List Int) (f : Nat) : Prop where
  turn : J.turn = t
  recs : J.records = (recsOf l f).take k
  used : J.used ≤ 1 + 3 * k
  state : t = 3 → J.state = [120]
theorem Turned.next {J : JS} {t k : Nat} {l : List Int} {f : Nat} (h : Turned J t k l f) (hk : k < l.length) : Turned { J with records := J.records ++ [jText (l[k] % 200).toNat f], used := J.used + pagesN (jText (l[k] % 200).toNat f).length } t (k + 1) l f := by
  refine ⟨h.turn, ?_, ?_, h.state⟩
  · show J.records ++ _ = _
    rw [h.recs, recsOf_take l f k hk]
  · show J.used + pagesN _ ≤ _
    rw [jText_len]
    have := pagesN_two (l[k] % 200).toNat (by omega)
    have := h.used
    omega
set_option maxRecDepth 100000 in
set_option maxHeartbeats 8000000 in
theorem walkJournalTurns (W : World) (v0 : Value) (l0 : List Int) (h0 : IntsIn W v0 .u16 l0) (v1 : Value) (l1 : List Int) (h1 : IntsIn W v1 .u16 l1) (f0 : Int) (wf : (Lit.int .u8 f0).wf = true) :
    Calls Try.prog 3 #[v0, v1, .int .u8 f0] W fun e w' => e = .returned (.bool true) ∧ Below W.heap.size W w' := by
  obtain ⟨A0, c0, rfl, _, _, hw0, hc0⟩ := h0
  obtain ⟨A1, c1, rfl, _, _, hw1, hc1⟩ := h1
  have wf2 : 0 ≤ f0 ∧ f0 ≤ 255 := by have h := wf; simp [Lit.wf] at h; exact ⟨h.1, h.2⟩
  obtain ⟨f, rfl⟩ : ∃ f : Nat, f0 = f := ⟨f0.toNat, by omega⟩
  have hf8 : f ≤ 255 := by omega
  obtain ⟨n0, hn0⟩ : ∃ n, l0.length = n := ⟨_, rfl⟩
  obtain ⟨n1, hn1⟩ : ∃ n, l1.length = n := ⟨_, rfl⟩
  have HN0 := hide hn0
  have HN1 := hide hn1
  have HC0 := hide hc0
  have HC1 := hide hc1
  have HW0 := hide hw0
  have HW1 := hide hw1
  rw [hn0, hn1]
  clear hn0 hn1 hc0 hc1 hw0 hw1 wf wf2
  go_enter Try.func3, Try.ntmps3
  go_wp2_with fail
  refine (awake_c W).mono ?_
  rintro e w1 ⟨rfl, hb⟩
  have HB := hide hb
  clear hb
  by_cases q0 : 8 < n0
  · have d0 : decide ((8 : Int) < (n0 : Int)) = true := by simp; omega
    go_wp2_with fail
    go_ret
    exact ⟨rfl, HB.out⟩
  have d0 : decide ((8 : Int) < (n0 : Int)) = false := by simp; omega
  by_cases q1 : 8 < n1
  · have d1 : decide ((8 : Int) < (n1 : Int)) = true := by simp; omega
    go_wp2_with fail
    go_ret
    exact ⟨rfl, HB.out⟩
  have d1 : decide ((8 : Int) < (n1 : Int)) = false := by simp; omega
  go_wp2_with fail
  refine (new_z 60 (by decide) (by decide) W w1 HB.out).mono ?_
  rintro e w2 ⟨d, rfl, hz⟩
  have HZ := hide hz
  clear hz HB
  go_wp2_with fail
  refine (open_z HZ.out).mono ?_
  rintro e w3 ⟨g, rfl, hz, _⟩
  replace HZ := hide hz
  clear hz
  go_wp2_with fail
  refine (save_z HZ.out [] _ rfl (by decide) (by decide) (by decide)).mono ?_
  rintro e w4 ⟨rfl, hz, _⟩
  replace HZ := hide hz
  clear hz
  have HT : Hid (Turned ⟨js0.turn + 1, [], [], pagesN ([] : List UInt8).length, false⟩ 1 0 l0 f) := hide ⟨rfl, by simp, by decide, fun h => absurd h (by decide)⟩
  go_wp2_with fail
  go_loopw [10] (fun i wr => ∃ (t : Nat) (J : JS), t ≤ 2 ∧ i = .int .i64 t ∧ SesZ W [] wr d g 60 J ∧ Turned J (t + 1) 0 l0 f) (fun i _ => 2 - (intOf i).toNat)
  case atStart => exact ⟨0, _, by omega, rfl, HZ.out, HT.out⟩
  case round =>
    clear HZ HT
    obtain ⟨t, J, ht, rfl, hz, hj⟩ := hrel
    have HZ := hide hz
    have HT := hide hj
    clear hz hj
    by_cases hlt : t < 2
    · have dt : decide ((t : Int) < 2) = true := by simp; omega
      go_wp2_with fail
      go_loopw [57] (fun i wr => ∃ (k : Nat) (J : JS), k ≤ n0 ∧ i = .int .i64 k ∧ SesZ W [] wr d g 60 J ∧ Turned J (t + 1) k l0 f) (fun i _ => n0 - (intOf i).toNat)
      case atStart => exact ⟨0, J, by omega, rfl, HZ.out, HT.out⟩
      case round =>
        clear HZ HT
        obtain ⟨k, J, hk, rfl, hz, hj⟩ := hrel
        have HZ := hide hz
        have HT := hide hj
        clear hz hj
        by_cases hlk : k < n0
        · have hkl : k < l0.length := by rw [HN0.out]; exact hlk
          obtain ⟨b, off, rfl, hbl, hcell⟩ := HC0.out (by omega)
          have hx := hcell k hkl
          have HX := hide (show l0[k] = l0[k] from rfl)
          have HXW := hide (HW0.out l0[k] (List.getElem_mem hkl))
          have hxc : wr.cell? ⟨b, off + k, none⟩ = some (.int .u16 l0[k]) := (HZ.out.below.cell (p := ⟨b, off + k, none⟩) hbl).trans hx
          obtain ⟨x, hxx⟩ : ∃ x, l0[k] = x := ⟨_, rfl⟩
          have HXX := hide hxx
          rw [hxx] at hxc HXW
          have hx16 : 0 ≤ x ∧ x ≤ 65535 := by have h := HXW.out; simp [Lit.wf] at h; exact ⟨h.1, h.2⟩
          clear hcell hx HX hxx
          go_wp2_with fail
          refine (text_c 0 (x % 200) 0 f hf8 (by omega) (.slice none 0 0) rfl wr).mono ?_
          rintro e w5 ⟨rfl, hb⟩
          replace HZ := hide (HZ.out.step hb)
          clear hb
          have e1 : (max 0 (x % 200) % 400).toNat = (x % 200).toNat := by omega
          rw [e1]
          go_wp2_with fail
          refine (append_z HZ.out (jText (x % 200).toNat f) _ rfl (by rw [jText_len]; omega) (by rw [HT.out.turn]; omega) (by rw [jText_len]; have := pagesN_two (x % 200).toNat (by omega); have := HT.out.used; omega) (by rw [HT.out.recs, List.length_take]; omega)).mono ?_
          rintro e w6 ⟨rfl, hz, _⟩
          have HZ2 := hide hz
          have HT2 := hide (HT.out.next hkl)
          rw [HXX.out] at HT2
          clear hz
          go_wp2_with fail
          go_roundw
          case rel => exact ⟨k + 1, _, by omega, by go_num, HZ2.out, HT2.out⟩
          case measure => simp [intOf]; omega
        · go_wp2_with fail
          refine (save_z HZ.out [120] _ rfl (by decide) (by decide) (by rw [HT.out.turn]; omega)).mono ?_
          rintro e w5 ⟨rfl, hz, _⟩
          have HZ2 := hide hz
          clear hz
          go_wp2_with fail
          go_roundw
          case rel => exact ⟨t + 1, _, by omega, by go_num, HZ2.out, ⟨by show J.turn + 1 = _; rw [HT.out.turn], by simp, by show pagesN _ ≤ _; decide, fun _ => rfl⟩⟩
          case measure => simp [intOf]; omega
    · have ht2 : t + 1 = 3 := by omega
      have dt : decide ((t : Int) < 2) = false := by simp; omega
      rw [ht2] at HT
      obtain ⟨f2, hf2e⟩ : ∃ f2, f2 = (f + 1) % 256 := ⟨_, rfl⟩
      have hfe : ((f : Int) + 1) % 256 = (f2 : Int) := by omega
      have hf2 : f2 ≤ 255 := by omega
      have HT3 : Hid (Turned J 3 0 l1 f2) := hide ⟨HT.out.turn, by rw [HT.out.recs]; simp, HT.out.used, HT.out.state⟩
      clear hf2e HT
      go_wp2_with fail
      have hbn : Below wr.heap.size wr (wr.alloc (.cells #[] 9)) := (Below.refl _ _).alloc (Nat.le_refl _) _
      have HS : Hid (Strs (wr.alloc (.cells #[] 9)) (.slice (some ⟨wr.heap.size, 0, none⟩) 0 0) []) := hide (.inr ⟨wr.heap.size, 0, 0, #[], rfl, heap_alloc_new wr _, by simp, by unfold maxLen; omega, by simp, by simp⟩)
      have HZ3 := hide (HZ.out.more hbn [wr.heap.size] (fun y hy => .inr (by simp at hy; subst hy; simp)))
      go_loopw [12, 79] (fun v i wr => ∃ (k : Nat) (J : JS), k ≤ n1 ∧ i = .int .i64 k ∧ SesZ W v.ownBlock.toList wr d g 60 J ∧ Turned J 3 k l1 f2 ∧ Strs wr v ((recsOf l1 f2).take k) ∧ ∀ j, v.ownBlock = some j → W.heap.size ≤ j) (fun _ i _ => n1 - (intOf i).toNat)
      case atStart => exact ⟨0, J, by omega, rfl, HZ3.out, HT3.out, HS.out, fun j hj => by injection hj with hj; subst hj; exact HZ.out.below.size⟩
      case round =>
        clear HZ HT3 HS HZ3 hbn
        obtain ⟨k, J, hk, rfl, hz, hj, hs, hv⟩ := hrel
        have HZ := hide hz
        have HT := hide hj
        have HS := hide hs
        have HV := hide hv
        clear hz hj hs hv
        by_cases hlk : k < n1
        · have hkl : k < l1.length := by rw [HN1.out]; exact hlk
          obtain ⟨b, off, rfl, hbl, hcell⟩ := HC1.out (by omega)
          have hx := hcell k hkl
          have HXW := hide (HW1.out l1[k] (List.getElem_mem hkl))
          have hxc : wr.cell? ⟨b, off + k, none⟩ = some (.int .u16 l1[k]) := (HZ.out.below.cell (p := ⟨b, off + k, none⟩) hbl).trans hx
          obtain ⟨x, hxx⟩ : ∃ x, l1[k] = x := ⟨_, rfl⟩
          have HXX := hide hxx
          rw [hxx] at hxc HXW
          have hx16 : 0 ≤ x ∧ x ≤ 65535 := by have h := HXW.out; simp [Lit.wf] at h; exact ⟨h.1, h.2⟩
          clear hcell hx hxx
          go_wp2_with fail
          try rw [hfe]
          refine (text_c 0 (x % 200) 0 f2 hf2 (by omega) (.slice none 0 0) rfl wr).mono ?_
          rintro e w5 ⟨rfl, hb⟩
          have e1 : (max 0 (x % 200) % 400).toNat = (x % 200).toNat := by omega
          rw [e1]
          replace HZ := hide (HZ.out.step hb)
          replace HS := hide (HS.out.step hb)
          clear hb
          go_wp2_with fail
          refine (append_z HZ.out (jText (x % 200).toNat f2) _ rfl (by rw [jText_len]; omega) (by rw [HT.out.turn]; omega) (by rw [jText_len]; have := pagesN_two (x % 200).toNat (by omega); have := HT.out.used; omega) (by rw [HT.out.recs, List.length_take]; omega)).mono ?_
          rintro e w6 ⟨rfl, hz, ha⟩
          replace HZ := hide hz
          replace HS := hide (ha.strs HS.out (fun j hj => by simp [hj]))
          replace HT := hide (HT.out.next hkl)
          clear hz ha
          rw [HXX.out] at HT
          have hbw : Below w6.heap.size w6 (w6.alloc (.cells #[.string ⟨(jText (x % 200).toNat f2).toArray⟩] 9)) := (Below.refl _ _).alloc (Nat.le_refl _) _
          have HS6 := hide (HS.out.step hbw)
          have HZ6 := hide (HZ.out.step hbw)
          have hc6 : (w6.alloc (.cells #[.string ⟨(jText (x % 200).toNat f2).toArray⟩] 9)).cell? ⟨w6.heap.size, 0, none⟩ = some (sv (jText (x % 200).toNat f2)) := (Blk.new w6 _ _).cell 0
          clear hbw
          go_wp2_with (at_builtin; refine wpList_append_strs rfl (.tmp 96) (.tmp 98) rfl HS6.out rfl rfl hc6 (by rw [List.length_take]; omega) ?_; intro v9 w9 hs9 hg9 ho9)
          have HS9 := hide hs9
          have HG9 := hide (And.intro hg9 ho9)
          clear hs9 hg9 ho9 hc6
          go_roundw
          case rel =>
            refine ⟨k + 1, _, by omega, by go_num, ?_, HT.out, ?_, ?_⟩
            · refine HZ6.out.touch (grown_touch HG9.out.1) (fun s hs => ⟨hs, HV.out s (by simpa using hs)⟩) (fun y hy => ?_)
              have hy : v9.ownBlock = some y := by simpa using hy
              refine ⟨?_, HS9.out.lt y hy⟩
              rcases HG9.out.2 with h3 | h3
              · exact .inl (by rw [← h3]; simp [hy])
              · rw [h3] at hy; injection hy with hy; exact .inr (by rw [hy]; exact Nat.le_refl _)
            · rw [recsOf_take l1 f2 k hkl, HXX.out]
              exact HS9.out
            · intro j hj
              rcases HG9.out.2 with h3 | h3
              · exact HV.out j (by rw [← h3]; exact hj)
              · rw [h3] at hj; injection hj with hj; rw [← hj]; exact HZ6.out.below.size
          case measure => simp [intOf]; omega
        · obtain rfl : k = n1 := by omega
          go_wp2_with fail
          refine (crash_z HZ.out.dk).mono ?_
          rintro e w5 ⟨rfl, hz, ha⟩
          replace HS := hide (ha.strs HS.out (fun j hj => by simp [hj]))
          replace HZ := hide hz
          clear hz ha
          go_wp2_with fail
          refine (open_z HZ.out).mono ?_
          rintro e w6 ⟨g2, rfl, hz, ha⟩
          replace HS := hide (ha.strs HS.out (fun j hj => by simp [hj]))
          replace HZ := hide hz
          clear hz ha
          go_wp2_with fail
          refine (turn_z HZ.out).mono ?_
          rintro e w7 ⟨he, rfl⟩
          rw [HT.out.turn] at he
          subst he
          go_wp2_with fail
          refine (state_z HZ.out).mono ?_
          rintro e w7 ⟨he, rfl⟩
          rw [HT.out.state rfl] at he
          replace he : e = .returned (.string ⟨#[120]⟩) := he
          subst he
          go_wp2_with fail
          refine (records_z HZ.out).mono ?_
          rintro e w8 ⟨v, rfl, hs, _, hb⟩
          have HR := hide hs
          replace HS := hide (HS.out.step hb)
          replace HZ := hide (HZ.out.step hb)
          clear hs hb
          obtain ⟨A3, n3, c3, rfl, _, _, _⟩ := HR.out.formN
          obtain ⟨A4, n4, c4, rfl, _, _, _⟩ := HS.out.formN
          go_wp2_with fail
          refine (same_c _ _ _ _ w8 HR.out HS.out.sl (by rw [HT.out.recs, List.length_take]; omega)).mono ?_
          rintro e w9 ⟨he, hb⟩
          rw [HT.out.recs, decide_eq_true rfl] at he
          subst he
          replace HZ := hide (HZ.out.step hb)
          clear hb
          go_wp2_with fail
          go_ret
          exact ⟨rfl, HZ.out.below⟩
end Go.Proofs.Ytpadgkkeihhneaa
