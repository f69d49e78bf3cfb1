/- State, Turn, Broken, Records. -/
import Derived.Test.YtpadgkkeihhneaaGreatC22
import Derived.Test.YtpadgkkeihhneaaGreatC33
import Derived.Test.YtpadgkkeihhneaaGreatC39
import Derived.Test.YtpadgkkeihhneaaGreatC32
import Derived.Test.YtpadgkkeihhneaaGreatC37
import Derived.Test.YtpadgkkeihhneaaGreatC38
namespace Go.Proofs.YtpadgkkeihhneaaGreat
set_option maxRecDepth 100000
set_option linter.unusedSimpArgs false
set_option linter.unusedVariables false
section
open Go.ChangeShapes Go.WideShapes Go.ChangeAt Go.RowKit
theorem turn_c (g d : Nat) (F : List Nat) (D : DS) (J : JS) (rv : Value) (w : World) (h : Jr w g d F D J rv) :
 Calls Tryz.prog 28 #[.pointer (some ⟨g, 0, none⟩)] w fun e w' => e = .returned (.int .i64 J.turn) ∧ w = w' := by
 have k : w.cell? ⟨g, 1, none⟩ = some (.int .i64 J.turn) := h.cells 1
 clear h
 go_enter Tryz.func28, Tryz.ntmps28
 go_wp2_with fail
 go_ret
 exact ⟨rfl, rfl⟩
theorem state_c (g d : Nat) (F : List Nat) (D : DS) (J : JS) (rv : Value) (w : World) (h : Jr w g d F D J rv) :
 Calls Tryz.prog 26 #[.pointer (some ⟨g, 0, none⟩)] w fun e w' => e = .returned (sv J.state) ∧ w = w' := by
 have k : w.cell? ⟨g, 2, none⟩ = some (sv J.state) := h.cells 2
 clear h
 go_enter Tryz.func26, Tryz.ntmps26
 go_wp2_with fail
 go_ret
 exact ⟨rfl, rfl⟩
theorem broken_c (g d : Nat) (F : List Nat) (D : DS) (J : JS) (rv : Value) (w : World) (h : Jr w g d F D J rv) :
 Calls Tryz.prog 58 #[.pointer (some ⟨g, 0, none⟩)] w fun e w' => e = .returned (.bool J.broken) ∧ w = w' := by
 have k : w.cell? ⟨g, 5, none⟩ = some (.bool J.broken) := h.cells 5
 clear h
 go_enter Tryz.func58, Tryz.ntmps58
 go_wp2_with fail
 go_ret
 exact ⟨rfl, rfl⟩
theorem Sl.cells {w : World} {A : Option Addr} {n c : Nat} {l : List (List UInt8)} (h : Sl w (.slice A n c) l) (hn : 0 < l.length) : ∃ ad, A = some ad ∧ ∀ j u, (l.map sv)[j]? = some u → w.cell? (ad.add j) = some u := by
 obtain ⟨A', c', hv, h1, h2, h3⟩ := h
 injection hv with e1 e2 e3
 subst e1 e2 e3
 obtain ⟨b, off, rfl, hb, hc⟩ := h3 hn
 refine ⟨_, rfl, fun j u hj => ?_⟩
 rw [List.getElem?_map] at hj
 have hjl : j < l.length := by
  rcases Nat.lt_or_ge j l.length with h | h
  ·exact h
  ·rw [List.getElem?_eq_none h] at hj; cases hj
 rw [List.getElem?_eq_getElem hjl] at hj
 rw [add_plain, hc j hjl]
 exact hj
theorem Row.sl {w : World} {v : Value} {l : List (List UInt8)} (h : w.ownsRow 0 9 1 v l.length (l.map sv)) : Strs w v l := by
 rcases h.2 with ⟨rfl, h0⟩ | ⟨g, cap, cur, rfl, _, hg, hn, hm, hs, ht⟩
 ·exact .inl ⟨rfl, List.eq_nil_of_length_eq_zero h0⟩
 ·exact .inr ⟨g, 0, cap, cur, rfl, hg, hn, hm, by omega, by rw [List.drop_zero]; rw [Nat.mul_one] at ht; exact ht⟩
/-- append(x, l...) onto an own row of texts. -/
theorem run_append_sl {w : World} (base : Nat) (ty : TypeId) {v x : Value} {l m : List (List UInt8)} (hv : w.ownsRow base 9 1 v l.length (l.map sv)) (hx : Sl w x m) (hlen : l.length + m.length ≤ 2000000) (hbase : base ≤ w.heap.size) :
 ∃ v' w', (Builtin.append_ #[49, 49] ty #[v, x]).run Tryz.prog w = .ok v' w' ∧ w'.ownsRow base 9 1 v' (l ++ m).length ((l ++ m).map sv) ∧ w.grownBy w' v.ownBlock ∧ (v'.ownBlock = v.ownBlock ∨ v'.ownBlock = some w.heap.size) := by
 obtain ⟨i0, hi0, hz0, hz1, hz2⟩ := info_parts info_str
 obtain ⟨A, c, rfl, h1, h2, h3⟩ := id hx
 rcases Nat.eq_zero_or_pos m.length with h0 | h0
 ·have hm : m = [] := List.eq_nil_of_length_eq_zero h0
  subst hm
  cases A with
  | none =>
   refine ⟨v, w, ?_, by simpa using hv, grown_refl _ _, .inl rfl⟩
   obtain ⟨_, ⟨rfl, _⟩ | ⟨g, cap, cur, rfl, _, _, hn, _⟩⟩ := hv
   ·simp [Builtin.append_, run_underlying Tryz.underlying49, sizeOf, typeInfo, hi0, Builtin.lenOf, Builtin.firstCells]
   ·simp [Builtin.append_, run_underlying Tryz.underlying49, sizeOf, typeInfo, hi0, Builtin.lenOf, Builtin.firstCells, hn, storeCells]
  | some a =>
   obtain ⟨v', w', h4, h5, h6, _, h7⟩ := run_append_own_at (P := Tryz.prog) w base 49 ty 9 i0 _ 1 16 Tryz.underlying49 hi0 hz0 hz1 hz2 rfl (by omega) v l.length (l.map sv) hv a 0 c [] rfl (by simp) (by simp) (by unfold maxLen; omega) (by omega) hbase
   exact ⟨v', w', h4, by simpa using h5, h6, h7⟩
 ·obtain ⟨ad, rfl, hc⟩ := hx.cells h0
  obtain ⟨v', w', h4, h5, h6, _, h7⟩ := run_append_own_at (P := Tryz.prog) w base 49 ty 9 i0 _ 1 16 Tryz.underlying49 hi0 hz0 hz1 hz2 rfl (by omega) v l.length (l.map sv) hv ad m.length c (m.map sv) (by simp) hc
   (fun u hu => by obtain ⟨x, _, rfl⟩ := List.mem_map.1 hu; exact sv_one x) (by unfold maxLen; omega) (by omega) hbase
  exact ⟨v', w', h4, by simpa using h5, h6, h7⟩
theorem wpList_append_sl {ops : Array Oper} {rest : List Oper} {o : Oper} {a : Act} {w : World} {Q : Exit → Act → World → Prop} (hgd : o.guard = none) (s x : Operand)
 (ho : o.op = .call { callee := .builtin .append, args := #[s, x], argTypes := #[49, 49] }) (base : Nat) {v vx : Value} {l m : List (List UInt8)}
 (hs : a.eval s = v) (hv : w.ownsRow base 9 1 v l.length (l.map sv)) (hx : a.eval x = vx) (hm : Sl w vx m) (hlen : l.length + m.length ≤ 2000000) (hbase : base ≤ w.heap.size)
 (h : ∀ v' w', w'.ownsRow base 9 1 v' (l ++ m).length ((l ++ m).map sv) → w.grownBy w' v.ownBlock → (v'.ownBlock = v.ownBlock ∨ v'.ownBlock = some w.heap.size) → wpList Tryz.prog ops Q rest (a.put o.dst v') w') : wpList Tryz.prog ops Q (o :: rest) a w := by
 refine wpList_plain hgd fun K hK => ?_
 obtain ⟨v', w', h1, h2, h3, h4⟩ := run_append_sl base o.type hv hm hlen hbase
 unfold Oper.wp execOp
 simp only [ho, resolve, invoke, builtin, Sem.run_bind, Sem.run_pure, Result.andThen_ok, List.map_toArray, List.map_cons, List.map_nil, hs, hx, h1]
 exact hK _ _ (h v' w' h2 h3 h4)
/-- A new slice of the texts. -/
def FreshS (w : World) (l : List (List UInt8)) (e : Ending) (w' : World) : Prop := ∃ v, e = .returned v ∧ Sl w' v l ∧ (∀ j, v.ownBlock = some j → w.heap.size ≤ j) ∧ Below w.heap.size w w'
set_option maxHeartbeats 2000000 in
theorem cloneS_c (v : Value) (l : List (List UInt8)) (w : World) (h : Sl w v l) (hl : l.length ≤ 1000000) : Calls Tryz.prog 65 #[v] w (FreshS w l) := by
 obtain ⟨A, n, c, rfl, hn, hnc, hcm⟩ := h.formN
 have H := hide h
 have HL : Hid (([] : List (List UInt8)).length + l.length ≤ 2000000) := hide (by simp; omega)
 have HN : Hid (n = l.length) := hn
 have heq := fun (w : World) (A : Option Addr) (n c : Nat) => Lib.run_eql_slice_nil (P := Tryz.prog) w 49 9 A n c 0 0 Tryz.underlying49
 clear h hl hn
 cases A with
 | none =>
  have hnil : Hid (l = []) := hide (by
   rcases Nat.eq_zero_or_pos l.length with h0 | h0
   ·exact List.eq_nil_of_length_eq_zero h0
   ·obtain ⟨ad, e, _⟩ := H.out.cells h0; cases e)
  go_enter Tryz.func65, Tryz.ntmps65
  go_wp2_with fail
  go_ret
  exact ⟨_, rfl, by rw [hnil.out]; exact Sl.nil _, (fun j hj => by cases hj), Below.refl _ _⟩
 | some a =>
  go_enter Tryz.func65, Tryz.ntmps65
  go_wp2_with (at_builtin; refine wpList_append_sl rfl _ _ rfl w.heap.size (l := []) (m := l) rfl ⟨by simp, .inr ⟨w.heap.size, 0, #[], rfl, Nat.le_refl _, heap_alloc_new w _, Nat.le_refl _, by unfold maxLen; omega, by simp, by simp⟩⟩ rfl (H.out.step ((Below.refl _ _).alloc (Nat.le_refl _) _)) HL.out (by simp) ?_; intro v1 w1 how hg hw)
  go_ret
  have hb : Below w.heap.size w w1 := ((Below.refl _ _).alloc (Nat.le_refl _) _).grown hg (by simp) (fun k hk => by have hk : (some w.heap.size : Option Nat) = some k := hk; injection hk with hk; omega)
  refine ⟨v1, rfl, (Row.sl (l := l) (ownsRow_low (by simpa using how))).sl, fun j hj => ?_, hb⟩
  rcases hw with e | e
  ·have e' : v1.ownBlock = some w.heap.size := e
   rw [e'] at hj; injection hj with hj; subst hj; exact Nat.le_refl _
  ·rw [e] at hj; injection hj with hj; subst hj; simp
theorem records_c (g d : Nat) (F : List Nat) (D : DS) (J : JS) (rv : Value) (w : World) (h : Jr w g d F D J rv) (hl : J.records.length ≤ 1000000) :
 Calls Tryz.prog 27 #[.pointer (some ⟨g, 0, none⟩)] w (FreshS w J.records) := by
 have k : w.cell? ⟨g, 3, none⟩ = some rv := h.cells 3
 have HC := hide (cloneS_c rv J.records w h.recs.sl hl)
 obtain ⟨A, n, c, rfl, _, _, _⟩ := h.recs.formN
 clear h
 go_enter Tryz.func27, Tryz.ntmps27
 go_wp2_with fail
 refine HC.out.mono ?_
 rintro e w1 ⟨v, rfl, hs, hv, hb⟩
 have HS := hide hs
 have HV := hide hv
 have HB := hide hb
 clear hs hv hb
 go_wp2_with fail
 go_ret
 exact ⟨_, rfl, HS.out, HV.out, HB.out⟩
end
section
open Go.ChangeShapes Go.WideShapes Go.ChangeAt Go.RowKit
theorem zero_turn : (rd0 (List.replicate 128 0)).2 = 0 := by decide +kernel
theorem hdrOf_zero (i : Nat) : hdrOf i (List.replicate 128 0) = 0 := by
 unfold hdrOf
 split
 ·exact zero_turn
 ·rfl
theorem content_new (n i : Nat) (h : i < n) : content (dNew n) i = List.replicate 128 0 := by
 rw [content_calm rfl]
 show (List.replicate n (List.replicate 128 0)).getD i [] = _
 rw [List.getD_eq_getElem?_getD, List.getElem?_replicate, if_pos h]
 rfl
theorem prtOf_turn {b : List UInt8} {x : Prt} (h : prtOf b = some x) : x.turn = (rd0 b).2 := by
 unfold prtOf at h
 split at h
 ·injection h with h
  rw [← h]
  rfl
 ·cases h
theorem dNew_good (n : Nat) (h8 : 8 ≤ n) (h4 : n ≤ 4096) : Good (dNew n) js0 := by
 have hl : (dNew n).pages.length = n := List.length_replicate
 refine ⟨by rw [hl]; exact h8, by rw [hl]; exact h4, rfl, rfl, fun _ => rfl, by show 0 < _; decide, by show 0 + 1 < _; decide, fun _ => ?_, fun h => ?_, fun h => ?_, fun i h2 hi x hx => ?_, fun h => ?_⟩
 ·rw [content_new n 0 (by omega), content_new n 1 (by omega)]
  exact ⟨hdrOf_zero 0, .inr ⟨rfl, hdrOf_zero 1⟩⟩
 ·exact absurd h (by decide)
 ·exact absurd h (by decide)
 ·rw [hl] at hi
  rw [content_new n i hi] at hx
  rw [prtOf_turn hx, zero_turn]
  exact Nat.zero_le _
 ·exact absurd h (by decide)
theorem Lay.len {D : DS} {t i a : Nat} {l : List (List UInt8)} {u : Nat} (h : Lay D t i a l u) : a + l.length ≤ u := by
 induction l generalizing i a with
 | nil => exact Nat.le_of_eq h
 | cons s l ih => have := ih h.2.2; have := pagesN_posG s.length; rw [List.length_cons]; omega
theorem Good.used {D : DS} {J : JS} (h : Good D J) : J.used ≤ half D ∧ J.records.length ≤ half D := by
 by_cases h0 : J.turn = 0
 ·rw [h.zero h0]; exact ⟨Nat.zero_le _, Nat.zero_le _⟩
 ·have hl := h.lay (by omega)
  have := hl.used_le
  have h2 := hl.len
  rw [List.length_cons] at h2
  omega
theorem Good.jok {D : DS} {J : JS} (h : Good D J) : JOk D J := by
 have := h.used
 have := h.top
 have hh : half D ≤ 4096 := by unfold half; omega
 exact ⟨by have := h.turn; omega, h.used.1, by omega⟩
theorem Good.sz {D : DS} {J : JS} (h : Good D J) (c : Calm D) : D.Sz := ⟨h.len, by have := h.top; omega, by rw [c.pend]; exact Nat.zero_le _⟩
/-- Blocks of X are as they were. -/
def Away (X : List Nat) (w w' : World) : Prop := ∃ S, Touch S w w' ∧ ∀ j ∈ X, j ∉ S
theorem Away.size {X : List Nat} {w w' : World} (h : Away X w w') : w.heap.size ≤ w'.heap.size := by obtain ⟨S, h, _⟩ := h; exact h.size
/-- A disk that is new since w0 and lies apart from X. -/
structure DkS (w0 : World) (X : List Nat) (w : World) (d : Nat) (D : DS) : Prop where
 dk : ∃ F, Disk w d F D ∧ ∀ j ∈ F, w0.heap.size ≤ j ∧ j ∉ X
 below : Below w0.heap.size w0 w
 lt : ∀ j ∈ X, j < w.heap.size
/-- A journal on such a disk. -/
structure Sess (w0 : World) (X : List Nat) (w : World) (d g : Nat) (D : DS) (J : JS) : Prop where
 jn : ∃ G, Jn w g d G D J ∧ ∀ j ∈ G, w0.heap.size ≤ j ∧ j ∉ X
 below : Below w0.heap.size w0 w
 lt : ∀ j ∈ X, j < w.heap.size
theorem Sess.dk {w0 w : World} {X : List Nat} {d g : Nat} {D : DS} {J : JS} (h : Sess w0 X w d g D J) : DkS w0 X w d D := by
 obtain ⟨⟨G, ⟨F, rv, hj, hF, _⟩, hG⟩, hb, hl⟩ := h
 exact ⟨⟨F, hj.disk, fun j hm => hG j (hF j hm)⟩, hb, hl⟩
theorem Jn.step {w w' : World} {g d : Nat} {G : List Nat} {D : DS} {J : JS} (h : Jn w g d G D J) (k : Below w.heap.size w w') : Jn w' g d G D J := by
 obtain ⟨F, rv, h1, h2, h3, h4, h5⟩ := h
 exact ⟨F, rv, h1.step k, h2, h3, h4, fun j hj => Nat.lt_of_lt_of_le (h5 j hj) k.size⟩
theorem Below.touch_up {S : List Nat} {a w w' : World} (hb : Below a.heap.size a w) (h : Touch S w w') (hS : ∀ s ∈ S, a.heap.size ≤ s) : Below a.heap.size a w' := Below.touch hb h hS hb.size
theorem Below.trans_up {w0 w w' : World} (h : Below w0.heap.size w0 w) (k : Below w.heap.size w w') : Below w0.heap.size w0 w' :=
 Below.touch_up h (Touch.below k []) (by simp)
theorem Sess.step {w0 w w' : World} {X : List Nat} {d g : Nat} {D : DS} {J : JS} (h : Sess w0 X w d g D J) (k : Below w.heap.size w w') : Sess w0 X w' d g D J := by
 obtain ⟨⟨G, hj, hG⟩, hb, hl⟩ := h
 exact ⟨⟨G, hj.step k, hG⟩, Below.trans_up hb k, fun j hm => Nat.lt_of_lt_of_le (hl j hm) k.size⟩
theorem DkS.step {w0 w w' : World} {X : List Nat} {d : Nat} {D : DS} (h : DkS w0 X w d D) (k : Below w.heap.size w w') : DkS w0 X w' d D := by
 obtain ⟨⟨F, hj, hG⟩, hb, hl⟩ := h
 exact ⟨⟨F, hj.step k, hG⟩, Below.trans_up hb k, fun j hm => Nat.lt_of_lt_of_le (hl j hm) k.size⟩
/-- Another block is set apart. -/
theorem Sess.more {w0 w w' : World} {X : List Nat} {d g : Nat} {D : DS} {J : JS} (h : Sess w0 X w d g D J) (k : Below w.heap.size w w') (Y : List Nat) (hY : ∀ y ∈ Y, y ∈ X ∨ w.heap.size ≤ y ∧ y < w'.heap.size) : Sess w0 Y w' d g D J := by
 obtain ⟨⟨G, hj, hG⟩, hb, hl⟩ := h
 refine ⟨⟨G, hj.step k, fun j hm => ⟨(hG j hm).1, fun hy => ?_⟩⟩, Below.trans_up hb k, fun j hm => ?_⟩
 ·rcases hY j hy with h1 | h1
  ·exact (hG j hm).2 h1
  ·obtain ⟨F, rv, _, _, _, _, h5⟩ := hj
   have := h5 j hm
   omega
 ·rcases hY j hm with h1 | h1
  ·exact Nat.lt_of_lt_of_le (hl j h1) k.size
  ·exact h1.2
/-- The disk does not fail, and has the journal. -/
def SesZ (w0 : World) (X : List Nat) (w : World) (d g n : Nat) (J : JS) : Prop := ∃ D, Sess w0 X w d g D J ∧ Calm D ∧ Good D J ∧ D.pages.length = n
def DkZ (w0 : World) (X : List Nat) (w : World) (d n : Nat) (J : JS) : Prop := ∃ D, DkS w0 X w d D ∧ Calm D ∧ Good D J ∧ D.pages.length = n
theorem SesZ.step {w0 w w' : World} {X : List Nat} {d g n : Nat} {J : JS} (h : SesZ w0 X w d g n J) (k : Below w.heap.size w w') : SesZ w0 X w' d g n J := by
 obtain ⟨D, h, r⟩ := h
 exact ⟨D, h.step k, r⟩
theorem SesZ.more {w0 w w' : World} {X : List Nat} {d g n : Nat} {J : JS} (h : SesZ w0 X w d g n J) (k : Below w.heap.size w w') (Y : List Nat) (hY : ∀ y ∈ Y, y ∈ X ∨ w.heap.size ≤ y ∧ y < w'.heap.size) : SesZ w0 Y w' d g n J := by
 obtain ⟨D, h, r⟩ := h
 exact ⟨D, h.more k Y hY, r⟩
theorem SesZ.dk {w0 w : World} {X : List Nat} {d g n : Nat} {J : JS} (h : SesZ w0 X w d g n J) : DkZ w0 X w d n J := by
 obtain ⟨D, h, r⟩ := h
 exact ⟨D, h.dk, r⟩
theorem SesZ.below {w0 w : World} {X : List Nat} {d g n : Nat} {J : JS} (h : SesZ w0 X w d g n J) : Below w0.heap.size w0 w := by obtain ⟨D, h, _⟩ := h; exact h.below
theorem DkZ.below {w0 w : World} {X : List Nat} {d n : Nat} {J : JS} (h : DkZ w0 X w d n J) : Below w0.heap.size w0 w := by obtain ⟨D, h, _⟩ := h; exact h.below
theorem JDoes.sess {w0 w w' : World} {X G : List Nat} {d g : Nat} {r : DS × JS × Int} {e : Ending} (hG : ∀ j ∈ G, w0.heap.size ≤ j ∧ j ∉ X) (hb : Below w0.heap.size w0 w) (hl : ∀ j ∈ X, j < w.heap.size) (h : JDoes w g d G r e w') :
 e = .returned (.int .i64 r.2.2) ∧ Sess w0 X w' d g r.1 r.2.1 ∧ Away X w w' := by
 obtain ⟨he, G', hj, ht, hG'⟩ := h
 refine ⟨he, ⟨⟨G', hj, fun j hm => ?_⟩, Below.touch_up hb ht (fun j hm => (hG j hm).1), fun j hm => Nat.lt_of_lt_of_le (hl j hm) ht.size⟩, G, ht, fun j hm hx => (hG j hx).2 hm⟩
 rcases hG' j hm with h1 | h1
 ·exact hG j h1
 ·exact ⟨Nat.le_trans hb.size h1, fun hx => by have := hl j hx; omega⟩
theorem save_z {w0 w : World} {X : List Nat} {d g n : Nat} {J : JS} (h : SesZ w0 X w d g n J) (s : List UInt8) (S : ByteArray) (hS : S = ⟨s.toArray⟩) (hl : s.length ≤ 1000000) (hu : pagesN s.length ≤ (n - 2) / 2) (ht : J.turn + 1 < 2 ^ 40) :
 Calls Tryz.prog 35 #[.pointer (some ⟨g, 0, none⟩), .string S] w fun e w' => e = .returned (.int .i64 0) ∧ SesZ w0 X w' d g n ⟨J.turn + 1, s, [], pagesN s.length, false⟩ ∧ Away X w w' := by
 obtain ⟨D, ⟨⟨G, hj, hG⟩, hb, hlt⟩, c, hg, hn⟩ := h
 have hh : half D = (n - 2) / 2 := by unfold half; rw [hn]
 obtain ⟨D', e', c', hl', hg'⟩ := jSave_good c hg s (by omega) ht
 refine (jsave_c g d G D J s S hS hl w hj (hg.sz c) (by rw [c.pend]; simp) hg.jok).mono ?_
 intro e w' hd
 obtain ⟨he, hs, ha⟩ := hd.sess hG hb hlt
 rw [e'] at he hs
 exact ⟨he, ⟨D', hs, c', hg', hl'.trans hn⟩, ha⟩
theorem append_z {w0 w : World} {X : List Nat} {d g n : Nat} {J : JS} (h : SesZ w0 X w d g n J) (s : List UInt8) (S : ByteArray) (hS : S = ⟨s.toArray⟩) (hl : s.length ≤ 1000000) (h0 : 0 < J.turn) (hu : J.used + pagesN s.length ≤ (n - 2) / 2) (hr : J.records.length + 2 < 2 ^ 40) :
 Calls Tryz.prog 36 #[.pointer (some ⟨g, 0, none⟩), .string S] w fun e w' => e = .returned (.int .i64 0) ∧ SesZ w0 X w' d g n { J with records := J.records ++ [s], used := J.used + pagesN s.length } ∧ Away X w w' := by
 obtain ⟨D, ⟨⟨G, hj, hG⟩, hb, hlt⟩, c, hg, hn⟩ := h
 have hh : half D = (n - 2) / 2 := by unfold half; rw [hn]
 obtain ⟨D', e', c', hl', hg'⟩ := jAppend_good c hg s h0 (by omega) hr
 refine (jappend_c g d G D J s S hS hl w hj (hg.sz c) (by rw [c.pend]; simp) hg.jok).mono ?_
 intro e w' hd
 obtain ⟨he, hs, ha⟩ := hd.sess hG hb hlt
 rw [e'] at he hs
 exact ⟨he, ⟨D', hs, c', hg', hl'.trans hn⟩, ha⟩
theorem is_nil (w : World) : Is w (.slice none 0 0) [] := ⟨none, 0, rfl, Nat.le_refl _, by unfold maxLen; omega, (fun x hx => by cases hx), fun h => by simp at h⟩
theorem crash_z {w0 w : World} {X : List Nat} {d n : Nat} {J : JS} (h : DkZ w0 X w d n J) :
 Calls Tryz.prog 31 #[.pointer (some ⟨d, 0, none⟩), .slice none 0 0] w fun e w' => e = .returned (.tuple #[]) ∧ DkZ w0 X w' d n J ∧ Away X w w' := by
 obtain ⟨D, ⟨⟨F, hd, hF⟩, hb, hlt⟩, c, hg, hn⟩ := h
 refine (crash_c d F D (.slice none 0 0) [] w hd (is_nil w) (fun j hj => by cases hj)).mono ?_
 rintro e w' ⟨he, F', hd', ht, hF'⟩
 rw [dCrash_calm c] at hd'
 refine ⟨he, ⟨D, ⟨⟨F', hd', fun j hm => ?_⟩, Below.touch_up hb ht (fun j hm => (hF j hm).1), fun j hm => Nat.lt_of_lt_of_le (hlt j hm) ht.size⟩, c, hg, hn⟩, F, ht, fun j hm hx => (hF j hx).2 hm⟩
 rcases hF' j hm with h1 | h1
 ·exact hF j h1
 ·exact ⟨Nat.le_trans hb.size h1, fun hx => by have := hlt j hx; omega⟩
theorem open_z {w0 w : World} {X : List Nat} {d n : Nat} {J : JS} (h : DkZ w0 X w d n J) :
 Calls Tryz.prog 18 #[.pointer (some ⟨d, 0, none⟩)] w fun e w' => ∃ g, e = .returned (.tuple #[.pointer (some ⟨g, 0, none⟩), .int .i64 0]) ∧ SesZ w0 X w' d g n J ∧ Away X w w' := by
 obtain ⟨D, ⟨⟨F, hd, hF⟩, hb, hlt⟩, c, hg, hn⟩ := h
 refine (jopen_c d F D w hd (by rw [c.pend]; simp) (by have := hg.top; omega)).mono ?_
 intro e w' ho
 rw [jOpen_good hg] at ho
 obtain ⟨F', ht, hF', hlt', hd', hr⟩ := ho
 dsimp only at hr hd'
 rw [if_pos rfl] at hr
 obtain ⟨g, rv, he, hj, hgn, hrn⟩ := hr
 have hnew : ∀ j, w.heap.size ≤ j → w0.heap.size ≤ j ∧ j ∉ X := fun j h1 => ⟨Nat.le_trans hb.size h1, fun hx => by have := hlt j hx; omega⟩
 refine ⟨g, he, ⟨D, ⟨⟨g :: (F' ++ rv.ownBlock.toList), ⟨F', rv, hj, fun j hj => by simp [hj], fun j hj => by simp [hj], by simp, fun j hm => ?_⟩, fun j hm => ?_⟩, Below.touch_up hb ht (fun j hm => (hF j hm).1), fun j hm => Nat.lt_of_lt_of_le (hlt j hm) ht.size⟩, c, hg, hn⟩, F, ht, fun j hm hx => (hF j hx).2 hm⟩
 ·rcases List.mem_cons.1 hm with rfl | hm
  ·exact hj.glt
  ·rcases List.mem_append.1 hm with hm | hm
   ·exact hlt' j hm
   ·exact hj.rlt j (by simpa using hm)
 ·rcases List.mem_cons.1 hm with rfl | hm
  ·exact hnew _ hgn
  ·rcases List.mem_append.1 hm with hm | hm
   ·rcases hF' j hm with h1 | h1
    ·exact hF j h1
    ·exact hnew j h1
   ·exact hnew j (hrn j (by simpa using hm))
theorem new_z (n : Nat) (h8 : 8 ≤ n) (h4 : n ≤ 4096) (w0 w : World) (hb : Below w0.heap.size w0 w) :
 Calls Tryz.prog 9 #[.int .i64 n] w fun e w' => ∃ d, e = .returned (.tuple #[.pointer (some ⟨d, 0, none⟩), .int .i64 0]) ∧ DkZ w0 [] w' d n js0 := by
 refine (new_c n (by omega) h4 w).mono ?_
 rintro e w' ⟨d, F, he, hd, hb', hF⟩
 exact ⟨d, he, dNew n, ⟨⟨F, hd, fun j hj => ⟨Nat.le_trans hb.size (hF j hj), by simp⟩⟩, Below.trans_up hb hb', by simp⟩, dNew_calm n, dNew_good n h8 h4, List.length_replicate⟩
theorem turn_z {w0 w : World} {X : List Nat} {d g n : Nat} {J : JS} (h : SesZ w0 X w d g n J) :
 Calls Tryz.prog 28 #[.pointer (some ⟨g, 0, none⟩)] w fun e w' => e = .returned (.int .i64 J.turn) ∧ w = w' := by
 obtain ⟨D, ⟨⟨G, ⟨F, rv, hj, _⟩, hG⟩, hb, hlt⟩, _⟩ := h
 exact turn_c g d F D J rv w hj
theorem state_z {w0 w : World} {X : List Nat} {d g n : Nat} {J : JS} (h : SesZ w0 X w d g n J) :
 Calls Tryz.prog 26 #[.pointer (some ⟨g, 0, none⟩)] w fun e w' => e = .returned (sv J.state) ∧ w = w' := by
 obtain ⟨D, ⟨⟨G, ⟨F, rv, hj, _⟩, hG⟩, hb, hlt⟩, _⟩ := h
 exact state_c g d F D J rv w hj
theorem records_z {w0 w : World} {X : List Nat} {d g n : Nat} {J : JS} (h : SesZ w0 X w d g n J) :
 Calls Tryz.prog 27 #[.pointer (some ⟨g, 0, none⟩)] w (FreshS w J.records) := by
 obtain ⟨D, ⟨⟨G, ⟨F, rv, hj, _⟩, hG⟩, hb, hlt⟩, c, hg, _⟩ := h
 exact records_c g d F D J rv w hj (by have := hg.jok.recs; omega)
end
section
open Go.ChangeShapes Go.WideShapes Go.ChangeAt Go.RowKit
/-- n bytes from f on, the next one after fifty. -/
def jText (n f : Nat) : List UInt8 := (List.range n).map fun i => UInt8.ofNat (f + i / 50)
theorem jText_len (n f : Nat) : (jText n f).length = n := by unfold jText; simp
theorem jText_succ (n f : Nat) : jText (n + 1) f = jText n f ++ [UInt8.ofNat (f + n / 50)] := by unfold jText; rw [List.range_succ, List.map_append]; rfl
/-- The first k of n bytes are the text's. -/
def fillT (f n k : Nat) : List Value := (jText k f ++ List.replicate (n - k) 0).map bv
theorem fillT_set (f n k : Nat) (h : k < n) : (fillT f n k).set k (bv (UInt8.ofNat (f + k / 50))) = fillT f n (k + 1) := by
 unfold fillT
 rw [jText_succ, show n - k = (n - (k + 1)) + 1 by omega, List.replicate_succ, List.map_append, List.map_append, List.map_append, List.map_cons, List.set_append_right _ _ (by rw [List.length_map, jText_len]; omega),
  List.length_map, jText_len, Nat.sub_self, List.set_cons_zero, List.append_assoc]
 rfl
theorem fillT_get (f n k : Nat) (h : k < n) : (fillT f n k)[k]? = some (bv 0) := by
 unfold fillT
 rw [List.map_append, List.getElem?_append_right (by rw [List.length_map, jText_len]; omega), List.length_map, jText_len, Nat.sub_self, List.map_replicate, List.getElem?_replicate, if_pos (by omega)]
theorem fillT_zero (f n : Nat) : (fillT f n 0).toArray = zb n := by
 unfold fillT zb
 apply Array.ext'
 simp [jText]
theorem fillT_all (f n : Nat) : fillT f n n = (jText n f).map bv := by unfold fillT; simp
theorem bv_step (f k : Nat) (hf : f ≤ 255) (hk : k < 400) : bv (UInt8.ofNat (f + k / 50)) = .int .u8 (((f : Int) + (k : Int) / 50) % 256) := by
 unfold bv u8
 rw [UInt8.toNat_ofNat']
 congr 1
set_option maxHeartbeats 2000000 in
theorem text_c (k N m : Int) (f : Nat) (hf8 : f ≤ 255) (hN : -9223372036854775808 ≤ N ∧ N ≤ 9223372036854775807) (s : Value) (hs : s.oneCell' = true) (w : World) :
 Calls Tryz.prog 15 #[.agg ([.int .i64 k, .int .i64 N, .int .i64 m, .int .u8 f, s] : List Value).toArray] w fun e w' => e = .returned (.string ⟨(jText ((max 0 N) % 400).toNat f).toArray⟩) ∧ Below w.heap.size w w' := by
 obtain ⟨n, hn⟩ : ∃ n, n = ((max 0 N) % 400).toNat := ⟨_, rfl⟩
 have hn4 : n < 400 := by omega
 have HN : Hid ((max 0 N) % 400 = (n : Int)) := hide (by omega)
 have hm := fun W => run_make_bytes n (by omega) W
 obtain ⟨p, hp⟩ : ∃ p : Int, p = max 0 N := ⟨_, rfl⟩
 have HP := hide hp
 have hp0 : 0 ≤ p := by omega
 have hpi : p ≤ 9223372036854775807 := by omega
 rw [← hn]
 have HO := hide (Own.nil w [] (by simp))
 clear hn hp
 go_enter Tryz.func15, Tryz.ntmps15
 go_wp2_with fail
 rw [HN.out, hm]
 have hO1 := HO.out.push (t := 42) (cs := [.int .i64 k, .int .i64 N, .int .i64 m, .int .u8 f, s]) (Blk.new w _ _) ((Below.refl _ _).alloc (Nat.le_refl _) _)
 generalize w.alloc (.cells ([.int .i64 k, .int .i64 N, .int .i64 m, .int .u8 f, s] : List Value).toArray 42) = wa at *
 have hO2 := hO1.push (t := 5) (cs := fillT f n 0) (by rw [fillT_zero]; exact Blk.new _ _ _) ((Below.refl _ _).alloc (Nat.le_refl _) _)
 generalize wa.alloc (.cells (zb n) 5) = wb at *
 generalize wa.heap.size = b2 at *
 replace HO := hide hO2
 clear hO1 hO2 hm
 go_wp2_with fail
 go_loopw [12] (fun i wr => ∃ k2 : Nat, k2 ≤ n ∧ i = .int .i64 k2 ∧ Own w [] [(w.heap.size, 42, [.int .i64 k, .int .i64 N, .int .i64 m, .int .u8 f, s]), (b2, 5, fillT f n k2)] wr) (fun i _ => n - (intOf i).toNat)
 case atStart => exact ⟨0, by omega, rfl, HO.out⟩
 case round =>
  clear HO
  obtain ⟨k2, hk, rfl, ho⟩ := hrel
  have HO := hide ho
  clear ho
  by_cases hlt : k2 < n
  ·have k0 := HO.out.cells 0 rfl
   have hc : wr.cell? ⟨b2, k2, none⟩ = some (.int .u8 0) := by rw [HO.out.cells 1 rfl]; exact fillT_get f n k2 hlt
   have hf := HO.out.froz 1 rfl k2
   have q0 : (k2 : Int) / 50 % 256 = (k2 : Int) / 50 := by omega
   go_wp2_with fail
   go_roundw
   case rel =>
    refine ⟨k2 + 1, by omega, by go_num, ?_⟩
    have := HO.out.set 1 rfl k2 (bv (UInt8.ofNat (f + k2 / 50)))
    rw [fillT_set f n k2 hlt, bv_step f k2 hf8 (by omega)] at this
    exact this
   case measure => simp [intOf]; omega
  ·obtain rfl : k2 = n := by omega
   have hbs : Bs wr (.slice (some ⟨b2, 0, none⟩) k2 k2) (jText k2 f) := Bs.blk (HO.out.blk 1 rfl) (by rw [List.toList_toArray, fillT_all]) k2 (jText_len k2 f).symm (by rw [jText_len]; unfold maxLen; omega)
   have hst := run_string_bs hbs
   go_wp2_with fail
   go_ret
   exact ⟨rfl, HO.out.below⟩
set_option maxHeartbeats 2000000 in
theorem same_c (v1 v2 : Value) (l1 l2 : List (List UInt8)) (w : World) (h1 : Sl w v1 l1) (h2 : Sl w v2 l2) (hl : l1.length ≤ 1000000) :
 Calls Tryz.prog 32 #[v1, v2] w fun e w' => e = .returned (.bool (decide (l1 = l2))) ∧ Below w.heap.size w w' := by
 obtain ⟨A1, n1, c1, rfl, hn1, _, _⟩ := h1.formN
 obtain ⟨A2, n2, c2, rfl, hn2, _, _⟩ := h2.formN
 have HS1 := hide h1
 have HS2 := hide h2
 have HN1 : Hid (n1 = l1.length) := hn1
 have HN2 : Hid (n2 = l2.length) := hn2
 have hn6 : n1 ≤ 1000000 := by rw [HN1.out]; exact hl
 clear h1 h2 hn1 hn2 hl
 by_cases hq : n1 = n2
 ·subst hq
  go_enter Tryz.func32, Tryz.ntmps32
  go_wp2_with fail
  go_loopw [13] (fun i wr => ∃ k : Nat, k ≤ n1 ∧ i = .int .i64 k ∧ (∀ j, j < k → l1.getD j [] = l2.getD j []) ∧ Below w.heap.size w wr) (fun i _ => n1 - (intOf i).toNat)
  case atStart => exact ⟨0, by omega, rfl, (fun j hj => by omega), Below.refl _ _⟩
  case round =>
   obtain ⟨k, hk, rfl, heq, hb⟩ := hrel
   have HE := hide heq
   have HB := hide hb
   clear heq hb
   by_cases hlt : k < n1
   ·obtain ⟨ba, oa, rfl, _, hxa⟩ := (HS1.out.step HB.out).at_ k (by rw [← HN1.out]; exact hlt)
    obtain ⟨bb, ob, rfl, _, hxb⟩ := (HS2.out.step HB.out).at_ k (by rw [← HN2.out]; exact hlt)
    obtain ⟨x, hx⟩ : ∃ x, l1.getD k [] = x := ⟨_, rfl⟩
    obtain ⟨y, hy⟩ : ∃ y, l2.getD k [] = y := ⟨_, rfl⟩
    rw [hx] at hxa
    rw [hy] at hxb
    replace hxa : wr.cell? ⟨ba, oa + k, none⟩ = some (.string ⟨x.toArray⟩) := hxa
    replace hxb : wr.cell? ⟨bb, ob + k, none⟩ = some (.string ⟨y.toArray⟩) := hxb
    have HX := hide hx
    have HY := hide hy
    clear hx hy
    by_cases he : x = y
    ·have hd : (x == y) = true := by simpa using he
     go_wp2_with fail
     go_region
     go_wp2_with fail
     go_roundw
     case rel =>
      refine ⟨k + 1, by omega, by go_num, fun j hj => ?_, HB.out.drew⟩
      rcases Nat.lt_or_ge j k with h3 | h3
      ·exact HE.out j h3
      ·obtain rfl : j = k := by omega
       rw [HX.out, HY.out, he]
     case measure => simp [intOf]; omega
    ·have hd : (x == y) = false := by simpa using he
     go_wp2_with fail
     go_region
     go_wp2_with fail
     go_ret
     refine ⟨congrArg (fun b => Ending.returned (.bool b)) (?_ : false = decide (l1 = l2)), HB.out.drew⟩
     rw [decide_eq_false]
     intro h3
     exact he (by rw [← HX.out, ← HY.out, h3])
   ·obtain rfl : k = n1 := by omega
    go_wp2_with fail
    go_ret
    refine ⟨congrArg (fun b => Ending.returned (.bool b)) (?_ : true = decide (l1 = l2)), HB.out⟩
    rw [decide_eq_true]
    refine List.ext_getElem (HN1.out.symm.trans HN2.out) fun j h3 h4 => ?_
    have := HE.out j (by rw [HN1.out]; exact h3)
    simpa [List.getD, h3, h4] using this
 ·have hd : ((n1 : Int) != (n2 : Int)) = true := by simp; omega
  go_enter Tryz.func32, Tryz.ntmps32
  go_wp2_with fail
  go_ret
  refine ⟨congrArg (fun b => Ending.returned (.bool b)) (?_ : false = decide (l1 = l2)), Below.refl _ _⟩
  rw [decide_eq_false]
  intro h3
  exact hq (by rw [HN1.out, HN2.out, h3])
end
section
open Go.ChangeShapes Go.WideShapes Go.ChangeAt Go.RowKit
theorem Is.touchR {S : List Nat} {w w' : World} {v : Value} {l : List Int} (h : Is w v l) (k : Touch S w w') (hv : l ≠ [] → ∀ j, v.ownBlock = some j → j ∉ S) : Is w' v l := by
 by_cases hl : l = []
 ·subst hl
  obtain ⟨A, c, e, h1, h2, h3, _⟩ := h
  exact ⟨A, c, e, h1, h2, h3, fun h0 => by simp at h0⟩
 ·exact h.touch k (hv hl)
set_option maxHeartbeats 1000000 in
theorem crash_cR (d : Nat) (F : List Nat) (D : DS) (s : Value) (l : List Int) (w : World) (h : Disk w d F D) (hs : Is w s l) (hF : l ≠ [] → ∀ j, s.ownBlock = some j → j ∉ F) :
 Calls Tryz.prog 31 #[.pointer (some ⟨d, 0, none⟩), s] w (Does w d F (dCrash D l) (.tuple #[])) := by
 have hmf : ∀ (fn : Fn) (first cap : Array Value) (w : World), (Instr.makeFunc fn first cap).run Tryz.prog w = .ok (.func fn first cap) w := fun _ _ _ _ => rfl
 have H := hide h
 have HS := hide hs
 clear h hs
 obtain ⟨A, c, hsv⟩ : ∃ A c, s = .slice A l.length c := by obtain ⟨A, c, e, _⟩ := HS.out; exact ⟨A, c, e⟩
 generalize hn : l.length = n at hsv
 clear hn
 subst hsv
 go_enter_defers Tryz.func31, Tryz.ntmps31
 go_wp2_with fail
 generalize hw1 : (w.alloc (Obj.cells #[.pointer (some ⟨d, 0, none⟩)] _)).alloc (Obj.cells #[Value.slice A n c] _) = w1
 have kw : Below w.heap.size w w1 := by rw [← hw1]; exact ((Below.refl _ _).alloc (Nat.le_refl _) _).alloc (by simp) _
 have hb0 : w1.cell? ⟨w.heap.size, 0, none⟩ = some (.pointer (some ⟨d, 0, none⟩)) := by rw [← hw1]; simp [go_sem]
 have hb1 : w1.cell? ⟨w.heap.size + 1, 0, none⟩ = some (Value.slice A n c) := by rw [← hw1]; simp [go_sem]
 have hsz : w1.heap.size = w.heap.size + 2 := by rw [← hw1]; simp
 have hdisk := H.out.step kw
 have hsv := HS.out.step kw
 clear hw1
 have hset := settle_crash (w.heap.size + 1) d F D (fun i => l.getD i 0) w1 hdisk (fun i wr ht => by
  have hlt : ∀ j ∈ F, j < w.heap.size := by obtain ⟨gv, pv, h⟩ := H.out; exact h.lt
  exact crash2_c (w.heap.size + 1) _ l i wr ((World.cell?_of_block (ht.block (w.heap.size + 1) (by omega) (fun hh => by have := hlt _ hh; omega))).trans hb1) (hsv.touchR ht hF))
 refine hset.mono ?_
 rintro e w2 ⟨rfl, F2, hd2, ht2, hF2⟩
 clear hset
 go_wp2_with fail
 have hlt : ∀ j ∈ F, j < w.heap.size := by obtain ⟨gv, pv, h⟩ := H.out; exact h.lt
 have hinF : d < w.heap.size := by obtain ⟨gv, pv, h⟩ := H.out; exact hlt _ h.inF
 refine leaves_cons (f := 66) (args := #[.pointer (some ⟨w.heap.size, 0, none⟩)]) (by simp) (by simp [go_sem]) ?_
 refine (crash1_c w.heap.size d F2 _ .returning w2 ((World.cell?_of_block (ht2.block w.heap.size (by omega) (fun hh => by have := hlt _ hh; omega))).trans hb0) (by omega) hd2).mono ?_
 rintro e u' w3 ⟨rfl, hdoes⟩
 have hall := Does.then ((Touch.below kw F).trans ht2) (fun j hj => by
  rcases hF2 j hj with h | h
  ·exact .inl h
  ·exact .inr (by omega)) hdoes
 obtain ⟨rfl, hall⟩ := hall
 exact ⟨_, results_none rfl _ _ _, rfl, hall⟩
/-- What the program has in memory: a property of a world and of the blocks that it takes up. -/
structure Keeps (P : World → List Nat → Prop) : Prop where
 touch : ∀ (W W' : World) (S G : List Nat), P W G → Touch S W W' → (∀ j ∈ G, j ∉ S) → P W' G
 lt : ∀ W G, P W G → ∀ j ∈ G, j < W.heap.size
theorem Jn.touchG {S : List Nat} {w w' : World} {g d : Nat} {G : List Nat} {D : DS} {J : JS} (h : Jn w g d G D J) (k : Touch S w w') (hS : ∀ j ∈ G, j ∉ S) : Jn w' g d G D J := by
 obtain ⟨F, rv, h1, h2, h3, h4, h5⟩ := h
 exact ⟨F, rv, h1.touch k (hS g h4) (fun j hj => hS j (h3 j hj)) (fun j hj => hS j (h2 j hj)), h2, h3, h4, fun j hj => Nat.lt_of_lt_of_le (h5 j hj) k.size⟩
theorem keeps_jn (g d : Nat) (D : DS) (J : JS) : Keeps (fun W G => Jn W g d G D J) :=
 ⟨fun W W' S G h k hS => Jn.touchG h k hS, fun W G h => by obtain ⟨F, rv, h1, h2, h3, h4, h5⟩ := h; exact h5⟩
theorem keeps_dk (d : Nat) (D : DS) : Keeps (fun W G => Disk W d G D) := ⟨fun W W' S G h k hS => h.touch k hS, fun W G h => h.lt⟩
/-- The program's part P and the reference's journal v, apart from each other, from the law's blocks X and from the blocks M that are laid here. -/
def Zs (P : World → List Nat → Prop) (w0 W0 : World) (X M : List Nat) (W : World) (v : Value) (D : DS) (J : JS) : Prop :=
 ∃ G, P W G ∧ (∀ j ∈ G, w0.heap.size ≤ j ∧ j ∉ X ∧ j ∉ M) ∧ Rj W (G ++ M ++ X) v D J ∧ (∀ j ∈ X, j < W0.heap.size ∧ j ∉ M) ∧ (∀ j ∈ M, w0.heap.size ≤ j ∧ j < W.heap.size) ∧ Away X W0 W ∧ w0.heap.size ≤ W.heap.size
variable {P P' : World → List Nat → Prop} {w0 W0 W W' : World} {X M : List Nat} {v : Value} {D : DS} {J : JS}
theorem Away.next {X : List Nat} {a b c : World} {S : List Nat} (h : Away X a b) (k : Touch S b c) (hS : ∀ j ∈ X, j < a.heap.size → j ∉ S) (hX : ∀ j ∈ X, j < a.heap.size) : Away X a c := by
 obtain ⟨T, h1, h2⟩ := h
 refine ⟨T ++ S, (h1.mono (fun s hs => .inl (by simp [hs]))).trans (k.mono (fun s hs => .inl (by simp [hs]))), fun j hj hm => ?_⟩
 rcases List.mem_append.1 hm with hm | hm
 ·exact h2 j hj hm
 ·exact hS j hj (hX j hj) hm
theorem Away.refl (X : List Nat) (a : World) : Away X a a := ⟨[], Touch.refl _ _, by simp⟩
theorem Zs.step (hP : Keeps P) (h : Zs P w0 W0 X M W v D J) (k : Below W.heap.size W W') : Zs P w0 W0 X M W' v D J := by
 obtain ⟨G, h1, h2, h3, h4, h5, h6, h7⟩ := h
 exact ⟨G, hP.touch _ _ [] _ h1 (Touch.below k []) (by simp), h2, h3.step k, h4, fun j hj => ⟨(h5 j hj).1, Nat.lt_of_lt_of_le (h5 j hj).2 k.size⟩, h6.next (Touch.below k []) (by simp) (fun j hj => (h4 j hj).1), Nat.le_trans h7 k.size⟩
theorem Zs.push (hP : Keeps P) (h : Zs P w0 W0 X M W v D J) {b : Nat} (hb : b = W.heap.size) (k : Below W.heap.size W W') (hlt : b < W'.heap.size) : Zs P w0 W0 X (M ++ [b]) W' v D J := by
 have hs := Zs.step hP h k
 obtain ⟨G, h1, h2, h3, h4, h5, h6, h7⟩ := h
 have hG := hP.lt _ _ h1
 have hsz := h6.size
 refine ⟨G, hP.touch _ _ [] _ h1 (Touch.below k []) (by simp), fun j hj => ⟨(h2 j hj).1, (h2 j hj).2.1, fun hm => ?_⟩, h3.touch (Touch.below k _) (fun j hj => ?_), fun j hj => ⟨(h4 j hj).1, fun hm => ?_⟩, fun j hj => ?_, h6.next (Touch.below k []) (by simp) (fun j hj => (h4 j hj).1), Nat.le_trans h7 k.size⟩
 ·rcases List.mem_append.1 hm with hm | hm
  ·exact (h2 j hj).2.2 hm
  ·have := hG j hj; have e : j = b := by simpa using hm
   omega
 ·rcases List.mem_append.1 hj with hj | hj
  ·rcases List.mem_append.1 hj with hj | hj
   ·exact .inl (by simp [hj])
   ·rcases List.mem_append.1 hj with hj | hj
    ·exact .inl (by simp [hj])
    ·have e : j = b := by simpa using hj
     exact .inr (by omega)
  ·exact .inl (by simp [hj])
 ·rcases List.mem_append.1 hm with hm | hm
  ·exact (h4 j hj).2 hm
  ·have := (h4 j hj).1; have e : j = b := by simpa using hm
   omega
 ·rcases List.mem_append.1 hj with hj | hj
  ·exact ⟨(h5 j hj).1, Nat.lt_of_lt_of_le (h5 j hj).2 k.size⟩
  ·have e : j = b := by simpa using hj
   omega
theorem Zs.put (hP : Keeps P) (h : Zs P w0 W0 X M W v D J) {b : Nat} (hb : b ∈ M) (k : Touch [b] W W') : Zs P w0 W0 X M W' v D J := by
 obtain ⟨G, h1, h2, h3, h4, h5, h6, h7⟩ := h
 refine ⟨G, hP.touch _ _ _ _ h1 k (fun j hj hm => ?_), h2, h3.touch (k.mono (fun s hs => .inl (by have e : s = b := by simpa using hs
                                                                                                  subst e; simp [hb]))) (fun j hj => .inl hj), h4, fun j hj => ⟨(h5 j hj).1, Nat.lt_of_lt_of_le (h5 j hj).2 k.size⟩, h6.next k (fun j hj _ hm => ?_) (fun j hj => (h4 j hj).1), Nat.le_trans h7 k.size⟩
 ·have e : j = b := by simpa using hm
  exact (h2 j hj).2.2 (e ▸ hb)
 ·have e : j = b := by simpa using hm
  exact (h4 j hj).2 (e ▸ hb)
theorem Zs.drop {N' : List Nat} (h : Zs P w0 W0 X (M ++ N') W v D J) : Zs P w0 W0 X M W v D J := by
 obtain ⟨G, h1, h2, h3, h4, h5, h6, h7⟩ := h
 exact ⟨G, h1, fun j hj => ⟨(h2 j hj).1, (h2 j hj).2.1, fun hm => (h2 j hj).2.2 (by simp [hm])⟩, h3.touch (Touch.refl _ _) (fun j hj => .inl (by
  rcases List.mem_append.1 hj with hj | hj
  ·rcases List.mem_append.1 hj with hj | hj
   ·simp [hj]
   ·simp [hj]
  ·simp [hj])), fun j hj => ⟨(h4 j hj).1, fun hm => (h4 j hj).2 (by simp [hm])⟩, fun j hj => h5 j (by simp [hj]), h6, h7⟩
/-- What is set apart, and what is laid here: counted anew from the present world. -/
theorem Zs.rebase (h : Zs P w0 W0 X M W v D J) (X' M' : List Nat) (hX : ∀ j ∈ X', j ∈ X ∨ j ∈ M) (hM : ∀ j ∈ M', j ∈ M ∨ (j ∈ X ∧ w0.heap.size ≤ j)) (hd : ∀ j ∈ X', j ∉ M') : Zs P w0 W X' M' W v D J := by
 obtain ⟨G, h1, h2, h3, h4, h5, h6, h7⟩ := h
 have hs := h6.size
 refine ⟨G, h1, fun j hj => ⟨(h2 j hj).1, fun hm => ?_, fun hm => ?_⟩, h3.touch (Touch.refl _ _) (fun j hj => .inl ?_), fun j hj => ⟨?_, hd j hj⟩, fun j hj => ?_, Away.refl X' W, h7⟩
 ·rcases hX j hm with e | e
  ·exact (h2 j hj).2.1 e
  ·exact (h2 j hj).2.2 e
 ·rcases hM j hm with e | e
  ·exact (h2 j hj).2.2 e
  ·exact (h2 j hj).2.1 e.1
 ·rcases List.mem_append.1 hj with hj | hj
  ·rcases List.mem_append.1 hj with hj | hj
   ·simp [hj]
   ·rcases hM j hj with e | e
    ·simp [e]
    ·simp [e.1]
  ·rcases hX j hj with e | e
   ·simp [e]
   ·simp [e]
 ·rcases hX j hj with e | e
  ·exact Nat.lt_of_lt_of_le (h4 j e).1 hs
  ·exact (h5 j e).2
 ·rcases hM j hj with e | e
  ·exact h5 j e
  ·exact ⟨e.2, Nat.lt_of_lt_of_le (h4 j e.1).1 hs⟩
/-- A block that a call has made is laid here. -/
theorem Zs.fresh (hP : Keeps P) (h : Zs P w0 W0 X M W v D J) (k : Below W.heap.size W W') (B : List Nat) (hB : ∀ b ∈ B, W.heap.size ≤ b ∧ b < W'.heap.size) : Zs P w0 W0 X (M ++ B) W' v D J := by
 obtain ⟨G, h1, h2, h3, h4, h5, h6, h7⟩ := h
 have hG := hP.lt _ _ h1
 have hsz := h6.size
 refine ⟨G, hP.touch _ _ [] _ h1 (Touch.below k []) (by simp), fun j hj => ⟨(h2 j hj).1, (h2 j hj).2.1, fun hm => ?_⟩, h3.touch (Touch.below k _) (fun j hj => ?_), fun j hj => ⟨(h4 j hj).1, fun hm => ?_⟩, fun j hj => ?_, h6.next (Touch.below k []) (by simp) (fun j hj => (h4 j hj).1), Nat.le_trans h7 k.size⟩
 ·rcases List.mem_append.1 hm with hm | hm
  ·exact (h2 j hj).2.2 hm
  ·have := hG j hj; have := (hB j hm).1
   omega
 ·rcases List.mem_append.1 hj with hj | hj
  ·rcases List.mem_append.1 hj with hj | hj
   ·exact .inl (by simp [hj])
   ·rcases List.mem_append.1 hj with hj | hj
    ·exact .inl (by simp [hj])
    ·exact .inr (hB j hj).1
  ·exact .inl (by simp [hj])
 ·rcases List.mem_append.1 hm with hm | hm
  ·exact (h4 j hj).2 hm
  ·have := (h4 j hj).1; have := (hB j hm).1
   omega
 ·rcases List.mem_append.1 hj with hj | hj
  ·exact ⟨(h5 j hj).1, Nat.lt_of_lt_of_le (h5 j hj).2 k.size⟩
  ·have := (hB j hj).1; have := (hB j hj).2
   omega
/-- From one law's point of view to that of the call in it. -/
theorem Zs.away (h : Zs P w0 W0 X M W v D J) : Away X W0 W := by obtain ⟨G, h1, h2, h3, h4, h5, h6, h7⟩ := h; exact h6
/-- The program's part is turned by a call. -/
def Turns (P' : World → List Nat → Prop) (W : World) (G : List Nat) (W' : World) : Prop := ∃ G', P' W' G' ∧ Touch G W W' ∧ ∀ j ∈ G', j ∈ G ∨ W.heap.size ≤ j
def Stays (w0 : World) (M : List Nat) (W W' : World) : Prop := ∀ L : List (Nat × TypeId × List Value), (∀ e ∈ L, e.1 ∈ M) → Own w0 [] L W → Own w0 [] L W'
theorem Zs.turn (h : Zs P w0 W0 X M W v D J) {R : Ending → Prop} {f : FuncId} {args : Array Value} (hc : ∀ G, P W G → Calls Tryz.prog f args W fun e W' => R e ∧ Turns P' W G W') :
 Calls Tryz.prog f args W fun e W' => R e ∧ Zs P' w0 W0 X M W' v D J ∧ Stays w0 M W W' := by
 obtain ⟨G, h1, h2, h3, h4, h5, h6, h7⟩ := h
 refine (hc G h1).mono ?_
 rintro e W' ⟨hr, G', k1, k2, k3⟩
 have hX := h6.size
 have hnew : ∀ j, W.heap.size ≤ j → w0.heap.size ≤ j ∧ j ∉ X ∧ j ∉ M := fun j hj => ⟨by omega, fun hm => by have := (h4 j hm).1; omega, fun hm => by have := (h5 j hm).2; omega⟩
 refine ⟨hr, ⟨G', k1, fun j hj => ?_, h3.touch (k2.mono (fun s hs => .inl (by simp [hs]))) (fun j hj => ?_), h4, fun j hj => ⟨(h5 j hj).1, Nat.lt_of_lt_of_le (h5 j hj).2 k2.size⟩, h6.next k2 (fun j hj _ hm => (h2 j hm).2.1 hj) (fun j hj => (h4 j hj).1), Nat.le_trans h7 k2.size⟩, fun L hL hO => hO.away k2 fun s hs => .inr ⟨(h2 s hs).1, fun hm => ?_⟩⟩
 ·rcases k3 j hj with h | h
  ·exact h2 j h
  ·exact hnew j h
 ·rcases List.mem_append.1 hj with hj | hj
  ·rcases List.mem_append.1 hj with hj | hj
   ·rcases k3 j hj with h | h
    ·exact .inl (by simp [h])
    ·exact .inr h
   ·exact .inl (by simp [hj])
  ·exact .inl (by simp [hj])
 ·obtain ⟨e, he, rfl⟩ := List.mem_map.1 hm
  exact (h2 _ hs).2.2 (hL e he)
theorem Zs.turnE {ι : Type} {P' : ι → World → List Nat → Prop} (h : Zs P w0 W0 X M W v D J) {R : ι → Ending → Prop} {f : FuncId} {args : Array Value} (hc : ∀ G, P W G → Calls Tryz.prog f args W fun e W' => ∃ i, R i e ∧ Turns (P' i) W G W') :
 Calls Tryz.prog f args W fun e W' => ∃ i, R i e ∧ Zs (P' i) w0 W0 X M W' v D J ∧ Stays w0 M W W' := by
 obtain ⟨G, h1, h2, h3, h4, h5, h6, h7⟩ := h
 refine (hc G h1).mono ?_
 rintro e W' ⟨i, hr, G', k1, k2, k3⟩
 have hX := h6.size
 have hnew : ∀ j, W.heap.size ≤ j → w0.heap.size ≤ j ∧ j ∉ X ∧ j ∉ M := fun j hj => ⟨by omega, fun hm => by have := (h4 j hm).1; omega, fun hm => by have := (h5 j hm).2; omega⟩
 refine ⟨i, hr, ⟨G', k1, fun j hj => ?_, h3.touch (k2.mono (fun s hs => .inl (by simp [hs]))) (fun j hj => ?_), h4, fun j hj => ⟨(h5 j hj).1, Nat.lt_of_lt_of_le (h5 j hj).2 k2.size⟩, h6.next k2 (fun j hj _ hm => (h2 j hm).2.1 hj) (fun j hj => (h4 j hj).1), Nat.le_trans h7 k2.size⟩, fun L hL hO => hO.away k2 fun s hs => .inr ⟨(h2 s hs).1, fun hm => ?_⟩⟩
 ·rcases k3 j hj with h | h
  ·exact h2 j h
  ·exact hnew j h
 ·rcases List.mem_append.1 hj with hj | hj
  ·rcases List.mem_append.1 hj with hj | hj
   ·rcases k3 j hj with h | h
    ·exact .inl (by simp [h])
    ·exact .inr h
   ·exact .inl (by simp [hj])
  ·exact .inl (by simp [hj])
 ·obtain ⟨e, he, rfl⟩ := List.mem_map.1 hm
  exact (h2 _ hs).2.2 (hL e he)
/-- The reference's journal is turned by a call. -/
theorem Zs.ref (hP : Keeps P) (h : Zs P w0 W0 X M W v D J) {r : DS × JS × Int} {f : FuncId} {args : Array Value} (hc : ∀ F, Rj W F v D J → (∀ j ∈ F, j < W.heap.size) → Calls Tryz.prog f args W (GivesJ W F r)) :
 Calls Tryz.prog f args W fun e W' => ∃ v', e = .returned (.tuple #[v', .int .i64 r.2.2]) ∧ Below W.heap.size W W' ∧ Zs P w0 W0 X M W' v' r.1 r.2.1 := by
 obtain ⟨G, h1, h2, h3, h4, h5, h6, h7⟩ := h
 refine (hc (G ++ M ++ X) h3 (fun j hj => ?_)).mono ?_
 ·rcases List.mem_append.1 hj with hj | hj
  ·rcases List.mem_append.1 hj with hj | hj
   ·exact hP.lt _ _ h1 j hj
   ·exact (h5 j hj).2
  ·exact Nat.lt_of_lt_of_le (h4 j hj).1 h6.size
 rintro e W' ⟨v', he, hr, k⟩
 exact ⟨v', he, k, G, hP.touch _ _ [] _ h1 (Touch.below k []) (by simp), h2, hr, h4, fun j hj => ⟨(h5 j hj).1, Nat.lt_of_lt_of_le (h5 j hj).2 k.size⟩, h6.next (Touch.below k []) (by simp) (fun j hj => (h4 j hj).1), Nat.le_trans h7 k.size⟩
def rjc (A : Option Addr) (n c : Nat) (B : Option Addr) (m b : Nat) (fz : Int) (fl : Bool) (t : Int) (s : Value) (r : Value) (u : Int) (br : Bool) : List Value := [.slice A n c, .slice B m b, .int .i64 fz, .bool fl, .int .i64 t, s, r, .int .i64 u, .bool br]
/-- The reference's disk alone is turned. -/
theorem Zs.refD (hP : Keeps P) {A : Option Addr} {n c : Nat} {B : Option Addr} {m b : Nat} {fz : Int} {fl : Bool} {t : Int} {s : Value} {q : Value} {u : Int} {br : Bool} (h : Zs P w0 W0 X M W (.agg (rjc A n c B m b fz fl t s q u br).toArray) D J) {D' : DS} {f : FuncId} {args : Array Value}
 (hc : ∀ F, Rf W F (.agg #[.slice A n c, .slice B m b, .int .i64 fz, .bool fl]) D → (∀ j ∈ F, j < W.heap.size) → Calls Tryz.prog f args W (GivesR W F D')) :
 Calls Tryz.prog f args W fun e W' => ∃ A' n' c' B' m' b' fz' fl', e = .returned (.agg #[.slice A' n' c', .slice B' m' b', .int .i64 fz', .bool fl']) ∧ Below W.heap.size W W' ∧ Zs P w0 W0 X M W' (.agg (rjc A' n' c' B' m' b' fz' fl' t s q u br).toArray) D' J := by
 obtain ⟨G, h1, h2, h3, h4, h5, h6, h7⟩ := h
 obtain ⟨A0, n0, c0, B0, m0, b0, rw_, hv, hrf, hrs, hap⟩ := h3
 have hv2 := congrArg (fun x : Value => match x with | .agg a => a.toList | _ => []) hv
 simp only [rjc, List.cons.injEq, Value.slice.injEq, Value.int.injEq, Value.bool.injEq, true_and, and_true] at hv2
 obtain ⟨⟨rfl, rfl, rfl⟩, ⟨rfl, rfl, rfl⟩, rfl, rfl, rfl, rfl, rfl, rfl, rfl⟩ := hv2
 refine (hc (G ++ M ++ X) hrf (fun j hj => ?_)).mono ?_
 ·rcases List.mem_append.1 hj with hj | hj
  ·rcases List.mem_append.1 hj with hj | hj
   ·exact hP.lt _ _ h1 j hj
   ·exact (h5 j hj).2
  ·exact Nat.lt_of_lt_of_le (h4 j hj).1 h6.size
 rintro e W' ⟨v', rfl, hr, k⟩
 obtain ⟨A', n', c', B', m', b', vs', xs', rfl, hk'⟩ := hr.form
 exact ⟨A', n', c', B', m', b', _, _, rfl, k, G, hP.touch _ _ [] _ h1 (Touch.below k []) (by simp), h2, ⟨A', n', c', B', m', b', _, rfl, hr, hrs.step k, fun j hj => ⟨Nat.lt_of_lt_of_le (hap j hj).1 k.size, (hap j hj).2⟩⟩, h4, fun j hj => ⟨(h5 j hj).1, Nat.lt_of_lt_of_le (h5 j hj).2 k.size⟩, h6.next (Touch.below k []) (by simp) (fun j hj => (h4 j hj).1), Nat.le_trans h7 k.size⟩
theorem Rj.rf {F : List Nat} {A : Option Addr} {n c : Nat} {B : Option Addr} {m b : Nat} {fz : Int} {fl : Bool} {t : Int} {s : Value} {q : Value} {u : Int} {br : Bool} (h : Rj W F (.agg (rjc A n c B m b fz fl t s q u br).toArray) D J) : Rf W F (.agg #[.slice A n c, .slice B m b, .int .i64 fz, .bool fl]) D := by
 obtain ⟨A0, n0, c0, B0, m0, b0, rw_, hv, hrf, hrs, hap⟩ := h
 have hv2 := congrArg (fun x : Value => match x with | .agg a => a.toList | _ => []) hv
 simp only [rjc, List.cons.injEq, Value.slice.injEq, Value.int.injEq, Value.bool.injEq, true_and, and_true] at hv2
 obtain ⟨⟨rfl, rfl, rfl⟩, ⟨rfl, rfl, rfl⟩, rfl, rfl, rfl, rfl, rfl, rfl, rfl⟩ := hv2
 exact hrf
/-- A look at the reference's journal. -/
theorem Zs.look (hP : Keeps P) (h : Zs P w0 W0 X M W v D J) {f : FuncId} {args : Array Value} {Q : Ending → World → Prop} (hc : ∀ F, Rj W F v D J → Calls Tryz.prog f args W Q) (hQ : ∀ e W', Q e W' → Below W.heap.size W W') :
 Calls Tryz.prog f args W fun e W' => Q e W' ∧ Zs P w0 W0 X M W' v D J := by
 have h' := h
 obtain ⟨G, h1, h2, h3, h4, h5, h6, h7⟩ := h
 exact (hc (G ++ M ++ X) h3).mono fun e W' hq => ⟨hq, Zs.step hP h' (hQ e W' hq)⟩
theorem Zs.form (h : Zs P w0 W0 X M W v D J) : ∃ A n c B m b q, v = .agg (rjc A n c B m b D.fuse D.failed J.turn (sv J.state) q J.used J.broken).toArray ∧ ∃ A' m' c', q = .slice A' m' c' ∧ Hid (m' = J.records.length) := by
 obtain ⟨G, h1, h2, ⟨A, n, c, B, m, b, rw_, e, h3, h3b, h3c⟩, h4, h5, h6, h7⟩ := h
 obtain ⟨A', m', c', e', hm, _⟩ := h3b.formN
 exact ⟨A, n, c, B, m, b, rw_, e, A', m', c', e', hm⟩
/-- What a disk does. -/
theorem turns_does {d : Nat} {F : List Nat} {D : DS} {v : Value} {W W' : World} {e : Ending} (h : Does W d F D v e W') : e = .returned v ∧ Turns (fun W G => Disk W d G D) W F W' := h
theorem turns_jdoes {g d : Nat} {G : List Nat} {r : DS × JS × Int} {W W' : World} {e : Ending} (h : JDoes W g d G r e W') : e = .returned (.int .i64 r.2.2) ∧ Turns (fun W G => Jn W g d G r.1 r.2.1) W G W' := h
theorem jn_disk {g d : Nat} {G : List Nat} {D : DS} {J : JS} {W : World} (h : Jn W g d G D J) : ∃ F, Disk W d F D ∧ ∀ j ∈ F, j ∈ G := by
 obtain ⟨F, q, h1, h2, h3, h4, h5⟩ := h
 exact ⟨F, h1.disk, h2⟩
theorem Zs.disk {g d : Nat} {E : DS} {K : JS} (h : Zs (fun W G => Jn W g d G E K) w0 W0 X M W v D J) : Zs (fun W G => Disk W d G E) w0 W0 X M W v D J := by
 obtain ⟨G, h1, h2, h3, h4, h5, h6, h7⟩ := h
 obtain ⟨F, hd, hF⟩ := jn_disk h1
 exact ⟨F, hd, fun j hj => h2 j (hF j hj), h3.touch (Touch.refl _ _) (fun j hj => .inl (by
  rcases List.mem_append.1 hj with hj | hj
  ·rcases List.mem_append.1 hj with hj | hj
   ·simp [hF j hj]
   ·simp [hj]
  ·simp [hj])), h4, h5, h6, h7⟩
/-- What Open leaves. -/
theorem turns_open {d : Nat} {F : List Nat} {r : JS × DS × Int} {W W' : World} {e : Ending} (h : OpenR W d F r e W') :
 (r.2.2 = 0 → ∃ g, e = .returned (.tuple #[.pointer (some ⟨g, 0, none⟩), .int .i64 0]) ∧ Turns (fun W G => Jn W g d G r.2.1 r.1) W F W') ∧ (r.2.2 ≠ 0 → e = .returned (.tuple #[.pointer none, .int .i64 r.2.2]) ∧ Turns (fun W G => Disk W d G r.2.1) W F W') := by
 obtain ⟨F', ht, hF', hlt', hd', hr⟩ := h
 constructor
 ·intro h0
  rw [if_pos h0] at hr
  obtain ⟨g, q, he, hj, hgn, hrn⟩ := hr
  refine ⟨g, he, g :: (F' ++ q.ownBlock.toList), ⟨F', q, hj, fun j hj => by simp [hj], fun j hj => by simp [hj], by simp, fun j hm => ?_⟩, ht, fun j hm => ?_⟩
  ·rcases List.mem_cons.1 hm with rfl | hm
   ·exact hj.glt
   ·rcases List.mem_append.1 hm with hm | hm
    ·exact hlt' j hm
    ·exact hj.rlt j (by simpa using hm)
  ·rcases List.mem_cons.1 hm with rfl | hm
   ·exact .inr hgn
   ·rcases List.mem_append.1 hm with hm | hm
    ·exact hF' j hm
    ·exact .inr (hrn j (by simpa using hm))
 ·intro h0
  rw [if_neg h0] at hr
  exact ⟨hr, F', hd', ht, hF'⟩
theorem Zs.failed {d : Nat} {E : DS} (hd : ∀ W G, P W G → ∃ F, Disk W d F E) (h : Zs P w0 W0 X M W v D J) : Calls Tryz.prog 59 #[.pointer (some ⟨d, 0, none⟩)] W fun e w' => e = .returned (.bool E.failed) ∧ W = w' := by
 obtain ⟨G, h1, _⟩ := h
 obtain ⟨F, hF⟩ := hd W G h1
 exact failed_c d F E W hF
theorem sound_open {D : DS} (h : Sound D) (hf : D.failed = false) : Sound (jOpen D).2.1 ∧ (jOpen D).2.1.pages.length = D.pages.length := by
 rcases open_code h hf with ⟨D', e, h1, h2, h3, h4⟩ | ⟨hz, L, h1, h2, e⟩
 ·rw [e]; exact ⟨h1, h3⟩
 ·rw [e]; exact ⟨⟨⟨h.ok.pages, h1, by show -1 ≤ (0 : Int) ∧ (0 : Int) ≤ 9223372036854775807; omega⟩, h.len, h.top, fun e => by simp at e, h2⟩, rfl⟩
theorem Sound.sz {D : DS} (h : Sound D) : D.Sz := ⟨h.len, by have := h.top; omega, by have := h.few; omega⟩
theorem keeps_disk {g d : Nat} {E : DS} {K : JS} : ∀ W G, Jn W g d G E K → ∃ F, Disk W d F E := fun W G h => by obtain ⟨F, h1, _⟩ := jn_disk h; exact ⟨F, h1⟩
end
end Go.Proofs.YtpadgkkeihhneaaGreat
