/- Clone. -/
import Derived.Test.YtpadgkkeihhneaaGreatC15
import Derived.WalkSpells
import Derived.Test.YtpadgkkeihhneaaGreatC03
import Derived.Lib.MinMax
namespace Go.Proofs.YtpadgkkeihhneaaGreat
set_option maxRecDepth 100000
set_option linter.unusedSimpArgs false
set_option linter.unusedVariables false
section
open Go.ChangeShapes Go.WideShapes Go.ChangeAt Go.RowKit
theorem ownsRow_low {w : World} {base : Nat} {t : TypeId} {size : Nat} {v : Value} {n : Nat} {cs : List Value} (h : w.ownsRow base t size v n cs) : Row w t size v n cs := by
 refine ⟨h.1, ?_⟩
 rcases h.2 with hn | ⟨g, cap, cur, rfl, hb, rest⟩
 ·exact .inl hn
 ·exact .inr ⟨g, cap, cur, rfl, Nat.zero_le _, rest⟩
theorem ownsRow_empty (w : World) (base : Nat) (t : TypeId) (size : Nat) (h : base ≤ w.heap.size) : (w.alloc (.cells #[] t)).ownsRow base t size (.slice (some ⟨w.heap.size, 0, none⟩) 0 0) 0 [] :=
 ⟨by simp, .inr ⟨w.heap.size, 0, #[], rfl, h, heap_alloc_new w _, Nat.le_refl _, by unfold maxLen; omega, by simp, by simp⟩⟩
end
section
open Go.ChangeShapes Go.WideShapes Go.ChangeAt Go.RowKit
/-- The blocks that a value takes up are there, and none is F's. -/
def Apart (w : World) (F : List Nat) (v : Value) : Prop := ∀ j, v.ownBlock = some j → j < w.heap.size ∧ j ∉ F
theorem Apart.touch {w w' : World} {F F' S : List Nat} {v : Value} (h : Apart w F v) (k : Touch S w w') (hF : ∀ j ∈ F', j ∈ F ∨ w.heap.size ≤ j) : Apart w' F' v := fun j hj => by
 obtain ⟨h1, h2⟩ := h j hj
 refine ⟨Nat.lt_of_lt_of_le h1 k.size, fun hm => ?_⟩
 rcases hF j hm with e | e
 ·exact h2 e
 ·omega
theorem Apart.new {w w' : World} {F : List Nat} {v : Value} (hF : ∀ j ∈ F, j < w.heap.size) (h : ∀ j, v.ownBlock = some j → w.heap.size ≤ j ∧ j < w'.heap.size) : Apart w' F v := fun j hj => by
 obtain ⟨h1, h2⟩ := h j hj
 exact ⟨h2, fun hm => by have := hF j hm; omega⟩
structure Pgs (w : World) (F : List Nat) (vs : List Value) (ps : List (List UInt8)) : Prop where
 len : vs.length = ps.length
 at_ : ∀ (i : Nat) (v : Value) (p : List UInt8), vs[i]? = some v → ps[i]? = some p → Bs w v p ∧ Apart w F v
theorem Pgs.touch {w w' : World} {F F' : List Nat} {vs : List Value} {ps : List (List UInt8)} (h : Pgs w F vs ps) (k : Touch F w w') (hF : ∀ j ∈ F', j ∈ F ∨ w.heap.size ≤ j) : Pgs w' F' vs ps :=
 ⟨h.len, fun i v p h1 h2 => ⟨(h.at_ i v p h1 h2).1.touch k fun j hj => ((h.at_ i v p h1 h2).2 j hj).2, (h.at_ i v p h1 h2).2.touch k hF⟩⟩
theorem Pgs.nil (w : World) (F : List Nat) : Pgs w F [] [] := ⟨rfl, fun i v p h => by simp at h⟩
theorem Pgs.snoc {w : World} {F : List Nat} {vs : List Value} {ps : List (List UInt8)} {v : Value} {p : List UInt8} (h : Pgs w F vs ps) (h1 : Bs w v p) (h2 : Apart w F v) : Pgs w F (vs ++ [v]) (ps ++ [p]) := by
 refine ⟨by simp [h.len], fun i x q hx hq => ?_⟩
 have hl := h.len
 rcases Nat.lt_trichotomy i vs.length with hi | hi | hi
 ·rw [List.getElem?_append_left hi] at hx
  rw [List.getElem?_append_left (by omega)] at hq
  exact h.at_ i x q hx hq
 ·subst hi
  rw [List.getElem?_concat_length] at hx
  rw [hl, List.getElem?_concat_length] at hq
  cases hx; cases hq
  exact ⟨h1, h2⟩
 ·rw [List.getElem?_eq_none (by simp; omega)] at hx
  cases hx
theorem Pgs.set {w : World} {F : List Nat} {vs : List Value} {ps : List (List UInt8)} {v : Value} {p : List UInt8} (h : Pgs w F vs ps) (i : Nat) (h1 : Bs w v p) (h2 : Apart w F v) : Pgs w F (vs.set i v) (ps.set i p) := by
 refine ⟨by simp [h.len], fun j x q hx hq => ?_⟩
 rw [List.getElem?_set] at hx hq
 by_cases hj : i = j
 ·subst hj
  rw [if_pos rfl] at hx hq
  split at hx
  ·split at hq
   ·cases hx; cases hq; exact ⟨h1, h2⟩
   ·cases hq
  ·cases hx
 ·rw [if_neg hj] at hx hq
  exact h.at_ j x q hx hq
/-- The cells of pending writes: a page's number and a slice each. -/
def pc (xs : List (Nat × Value)) : List Value := (xs.map fun x => [.int .i64 x.1, x.2]).flatten
theorem pc_snoc (xs : List (Nat × Value)) (x : Nat × Value) : pc (xs ++ [x]) = pc xs ++ [.int .i64 x.1, x.2] := by simp [pc]
theorem pc_at (xs : List (Nat × Value)) (i : Nat) (x : Nat × Value) (h : xs[i]? = some x) : (pc xs)[i * 2]? = some (.int .i64 x.1) ∧ (pc xs)[i * 2 + 1]? = some x.2 := by
 induction xs generalizing i with
 | nil => simp at h
 | cons y xs ih =>
  have e : pc (y :: xs) = .int .i64 y.1 :: y.2 :: pc xs := by simp [pc]
  cases i with
  | zero => simp at h; subst h; rw [e]; simp
  | succ i =>
   have := ih i (by simpa using h)
   rw [e, show (i + 1) * 2 = i * 2 + 1 + 1 by omega]
   simpa using this
structure Pds (w : World) (F : List Nat) (xs : List (Nat × Value)) (ws : List (Nat × List UInt8)) : Prop where
 len : xs.length = ws.length
 at_ : ∀ (i : Nat) (x : Nat × Value) (y : Nat × List UInt8), xs[i]? = some x → ws[i]? = some y → x.1 = y.1 ∧ Bs w x.2 y.2 ∧ Apart w F x.2
theorem Pds.touch {w w' : World} {F F' : List Nat} {xs : List (Nat × Value)} {ws : List (Nat × List UInt8)} (h : Pds w F xs ws) (k : Touch F w w') (hF : ∀ j ∈ F', j ∈ F ∨ w.heap.size ≤ j) : Pds w' F' xs ws :=
 ⟨h.len, fun i v p h1 h2 => ⟨(h.at_ i v p h1 h2).1, (h.at_ i v p h1 h2).2.1.touch k fun j hj => ((h.at_ i v p h1 h2).2.2 j hj).2, (h.at_ i v p h1 h2).2.2.touch k hF⟩⟩
theorem Pds.nil (w : World) (F : List Nat) : Pds w F [] [] := ⟨rfl, fun i v p h => by simp at h⟩
theorem Pds.snoc {w : World} {F : List Nat} {xs : List (Nat × Value)} {ws : List (Nat × List UInt8)} {x : Nat × Value} {y : Nat × List UInt8} (h : Pds w F xs ws) (h0 : x.1 = y.1) (h1 : Bs w x.2 y.2) (h2 : Apart w F x.2) : Pds w F (xs ++ [x]) (ws ++ [y]) := by
 refine ⟨by simp [h.len], fun i a b hx hq => ?_⟩
 have hl := h.len
 rcases Nat.lt_trichotomy i xs.length with hi | hi | hi
 ·rw [List.getElem?_append_left hi] at hx
  rw [List.getElem?_append_left (by omega)] at hq
  exact h.at_ i a b hx hq
 ·subst hi
  rw [List.getElem?_concat_length] at hx
  rw [hl, List.getElem?_concat_length] at hq
  cases hx; cases hq
  exact ⟨h0, h1, h2⟩
 ·rw [List.getElem?_eq_none (by simp; omega)] at hx
  cases hx
/-- The two slices of a disk of the reference. F: blocks in which none of it lies. -/
structure Rk (w : World) (F : List Nat) (D : DS) (dv pv : Value) (vs : List Value) (xs : List (Nat × Value)) : Prop where
 dur : Row w 35 1 dv D.pages.length vs
 pend : Row w 84 2 pv D.pend.length (pc xs)
 pgs : Pgs w F vs D.pages
 pds : Pds w F xs D.pend
 dA : Apart w F dv
 pA : Apart w F pv
 ok : D.Ok
theorem Rk.touch {w w' : World} {F F' : List Nat} {D : DS} {dv pv : Value} {vs : List Value} {xs : List (Nat × Value)} (h : Rk w F D dv pv vs xs) (k : Touch F w w') (hF : ∀ j ∈ F', j ∈ F ∨ w.heap.size ≤ j) : Rk w' F' D dv pv vs xs :=
 ⟨h.dur.touch k fun j hj => (h.dA j hj).2, h.pend.touch k fun j hj => (h.pA j hj).2, h.pgs.touch k hF, h.pds.touch k hF, h.dA.touch k hF, h.pA.touch k hF, h.ok⟩
theorem Rk.step {w w' : World} {F : List Nat} {D : DS} {dv pv : Value} {vs : List Value} {xs : List (Nat × Value)} (h : Rk w F D dv pv vs xs) (k : Below w.heap.size w w') : Rk w' F D dv pv vs xs :=
 h.touch (Touch.below k F) fun j hj => .inl hj
/-- Another fuse, another mark. -/
theorem Rk.other {w : World} {F : List Nat} {D D' : DS} {dv pv : Value} {vs : List Value} {xs : List (Nat × Value)} (h : Rk w F D dv pv vs xs) (h1 : D'.pages = D.pages) (h2 : D'.pend = D.pend) (ok : D'.Ok) : Rk w F D' dv pv vs xs :=
 ⟨by rw [h1]; exact h.dur, by rw [h2]; exact h.pend, by rw [h1]; exact h.pgs, by rw [h2]; exact h.pds, h.dA, h.pA, ok⟩
def rv (dv pv : Value) (D : DS) : Value := .agg #[dv, pv, .int .i64 D.fuse, .bool D.failed]
/-- The value v is a disk of the reference in the state D. -/
def Rf (w : World) (F : List Nat) (v : Value) (D : DS) : Prop := ∃ dv pv vs xs, v = rv dv pv D ∧ Rk w F D dv pv vs xs
theorem Rf.touch {w w' : World} {F F' : List Nat} {v : Value} {D : DS} (h : Rf w F v D) (k : Touch F w w') (hF : ∀ j ∈ F', j ∈ F ∨ w.heap.size ≤ j) : Rf w' F' v D := by
 obtain ⟨dv, pv, vs, xs, e, h⟩ := h; exact ⟨dv, pv, vs, xs, e, h.touch k hF⟩
theorem Rf.step {w w' : World} {F : List Nat} {v : Value} {D : DS} (h : Rf w F v D) (k : Below w.heap.size w w') : Rf w' F v D := h.touch (Touch.below k F) fun j hj => .inl hj
theorem Rf.ok {w : World} {F : List Nat} {v : Value} {D : DS} (h : Rf w F v D) : D.Ok := by obtain ⟨dv, pv, vs, xs, e, h⟩ := h; exact h.ok
/-- A call of the reference: a new value, and nothing that was there has turned. -/
def GivesR (w : World) (F : List Nat) (D : DS) (e : Ending) (w' : World) : Prop := ∃ v, e = .returned v ∧ Rf w' F v D ∧ Below w.heap.size w w'
def GivesRE (w : World) (F : List Nat) (r : DS × Int) (e : Ending) (w' : World) : Prop := ∃ v, e = .returned (.tuple #[v, .int .i64 r.2]) ∧ Rf w' F v r.1 ∧ Below w.heap.size w w'
theorem below_two (w : World) (o o' : Obj) : Below w.heap.size w ((w.alloc o).alloc o') := ((Below.refl _ w).alloc (Nat.le_refl _) _).alloc (by simp) _
/-- A call that hands back the same two slices. -/
def Val2 (w : World) (A : Option Addr) (n c : Nat) (B : Option Addr) (m b : Nat) (D : DS) (e : Ending) (w' : World) : Prop := e = .returned (rv (.slice A n c) (.slice B m b) D) ∧ Below w.heap.size w w'
set_option maxHeartbeats 1000000 in
theorem burn_v (A : Option Addr) (n c : Nat) (B : Option Addr) (m b : Nat) (D : DS) (hf : -1 ≤ D.fuse ∧ D.fuse ≤ 9223372036854775807) (w : World) :
 Calls Tryz.prog 40 #[rv (.slice A n c) (.slice B m b) D] w (Val2 w A n c B m b (dBurn D).1) := by
 unfold Val2 rv dBurn
 obtain ⟨hf1, hf2⟩ := hf
 by_cases h0 : D.fuse = 0
 ·rw [if_pos h0]
  simp only
  rw [h0]
  generalize D.failed = fl
  go_enter Tryz.func40, Tryz.ntmps40
  go_wp2_with fail
  refine bodyPost_ret (v := .agg #[.slice A n c, .slice B m b, .int .i64 0, .bool true]) (by simp [results, Tryz.results40, go_sem]) rfl ⟨rfl, ?_⟩
  exact below_two _ _ _
 ·have hz0 : (D.fuse == 0) = false := by simpa using h0
  rw [if_neg h0]
  by_cases h1 : 0 < D.fuse
  ·rw [if_pos h1]
   simp only
   generalize D.failed = fl
   generalize D.fuse = z at *
   go_enter Tryz.func40, Tryz.ntmps40
   go_wp2_with fail
   refine bodyPost_ret (v := .agg #[.slice A n c, .slice B m b, .int .i64 (z - 1), .bool fl]) (by simp [results, Tryz.results40, go_sem]) rfl ⟨rfl, ?_⟩
   exact below_two _ _ _
  ·rw [if_neg h1]
   have h2 : D.fuse ≤ 0 := by omega
   simp only
   generalize D.failed = fl
   generalize D.fuse = z at *
   go_enter Tryz.func40, Tryz.ntmps40
   go_wp2_with fail
   refine bodyPost_ret (v := .agg #[.slice A n c, .slice B m b, .int .i64 z, .bool fl]) (by simp [results, Tryz.results40, go_sem]) rfl ⟨rfl, ?_⟩
   exact below_two _ _ _
set_option maxHeartbeats 1000000 in
theorem failAfter_v (A : Option Addr) (n c : Nat) (B : Option Addr) (m b : Nat) (D : DS) (q : Int) (w : World) :
 Calls Tryz.prog 30 #[rv (.slice A n c) (.slice B m b) D, .int .i64 q] w (Val2 w A n c B m b (dFailAfter D q)) := by
 unfold Val2 rv dFailAfter
 simp only
 generalize D.failed = fl
 generalize D.fuse = z at *
 by_cases hle : -1 ≤ q
 ·rw [Int.max_eq_left hle]
  go_enter Tryz.func30, Tryz.ntmps30
  go_wp2_with fail
  refine bodyPost_ret (v := .agg #[.slice A n c, .slice B m b, .int .i64 q, .bool fl]) (by simp [results, Tryz.results30, go_sem, Int.max_eq_left hle]) rfl ⟨rfl, ?_⟩
  exact below_two _ _ _
 ·have hlt : q < -1 := by omega
  rw [Int.max_eq_right (by omega)]
  go_enter Tryz.func30, Tryz.ntmps30
  go_wp2_with fail
  refine bodyPost_ret (v := .agg #[.slice A n c, .slice B m b, .int .i64 (-1), .bool fl]) (by simp [results, Tryz.results30, go_sem, Int.max_eq_right (show q ≤ -1 by omega)]) rfl ⟨rfl, ?_⟩
  exact below_two _ _ _
theorem failAfter_r (F : List Nat) (v : Value) (D : DS) (q : Int) (hq : q ≤ 9223372036854775807) (w : World) (h : Rf w F v D) : Calls Tryz.prog 30 #[v, .int .i64 q] w (GivesR w F (dFailAfter D q)) := by
 obtain ⟨dv, pv, vs, xs, rfl, hk⟩ := h
 obtain ⟨A, c, rfl, _⟩ := hk.dur.form
 obtain ⟨B, b, rfl, _⟩ := hk.pend.form
 refine (failAfter_v A _ c B _ b D q w).mono ?_
 rintro e w' ⟨rfl, hb⟩
 exact ⟨_, rfl, ⟨_, _, vs, xs, rfl, (hk.step hb).other rfl rfl ⟨hk.ok.pages, hk.ok.pend, by show -1 ≤ max q (-1) ∧ max q (-1) ≤ 9223372036854775807; omega⟩⟩, hb⟩
end
section
open List renaming getElem_toArray → qa, getElem_cons_zero → qb, getElem_cons_succ → qc, setIfInBounds_toArray → qd, set_cons_zero → qe, set_cons_succ → qf
open Go.ChangeShapes Go.WideShapes Go.ChangeAt Go.RowKit
/-- append(v, x...) of bytes at a step of a region. -/
theorem step_append_bs {w : World} {ops : Array Oper} {o : Oper} {a : Act} {K : Act → World → Prop} {Q : Exit → Act → World → Prop} {E : Prop} (hgd : o.guard = none) (s x : Operand)
 (ho : o.op = .call { callee := .builtin .append, args := #[s, x], argTypes := #[35, 35] }) (base : Nat) {v vx : Value} {l m : List UInt8}
 (hs : a.eval s = v) (hv : Ow w base v l) (hx : a.eval x = vx) (hm : Bs w vx m) (hlen : l.length + m.length ≤ 140737488355328) (hbase : base ≤ w.heap.size)
 (h : ∀ v' w', Ow w' base v' (l ++ m) → w.grownBy w' v.ownBlock → (v'.ownBlock = v.ownBlock ∨ v'.ownBlock = some w.heap.size) → K (a.put o.dst v') w') :
 if Region.wanted o (yielded ops a.tmps) = true then Oper.wp Tryz.prog o a w K Q else E := by
 have hw : Region.wanted o (yielded ops a.tmps) = true := by simp [Region.wanted, hgd]
 rw [if_pos hw]
 obtain ⟨v', w', h1, h2, h3, h4⟩ := run_append_bs base o.type hv hm hlen hbase
 unfold Oper.wp execOp
 simp only [ho, resolve, invoke, builtin, Sem.run_bind, Sem.run_pure, Result.andThen_ok, List.map_toArray, List.map_cons, List.map_nil, hs, hx, h1]
 exact h v' w' h2 h3 h4
theorem Ow.empty (w : World) : Ow (w.alloc (.cells #[] 5)) w.heap.size (.slice (some ⟨w.heap.size, 0, none⟩) 0 0) [] := Ow.made [] #[] rfl (Nat.le_refl _) (by simp)
theorem Ow.empty1 (w : World) (o : Obj) (base : Nat) (hb : base ≤ w.heap.size + 1) : Ow ((w.alloc o).alloc (.cells #[] 5)) base (.slice (some ⟨w.heap.size + 1, 0, none⟩) 0 0) [] := by
 have h := Ow.made (w := w.alloc o) (base := base) [] #[] rfl (by simpa using hb) (by simp)
 rw [World.size_alloc] at h
 exact h
set_option maxRecDepth 100000 in
set_option maxHeartbeats 2000000 in
theorem mixed_c (v1 v2 : Value) (page data : List UInt8) (n : Int) (w : World) (h1 : Bs w v1 page) (h2 : Bs w v2 data) (l1 : page.length = 128) (l2 : data.length = 128) :
 Calls Tryz.prog 77 #[v1, v2, .int .i64 n] w (Fresh w (mixed page data n)) := by
 obtain ⟨A1, m1, c1, rfl, hm1, hc1, hcm1⟩ := h1.formN
 obtain ⟨A2, m2, c2, rfl, hm2, hc2, hcm2⟩ := h2.formN
 obtain rfl : m1 = 128 := hm1.out.trans l1
 obtain rfl : m2 = 128 := hm2.out.trans l2
 obtain ⟨k, hk⟩ : ∃ k, k = (min (max n 0) 128).toNat := ⟨_, rfl⟩
 have hk2 : k ≤ 128 := by omega
 have hkz : max 0 (min n 128) = (k : Int) := by omega
 have hmix : mixed page data n = data.take k ++ page.drop k := by unfold mixed; rw [hk]
 have hkc2 : (k : Int) ≤ (c2 : Int) := by omega
 have hkc1 : (k : Int) ≤ (128 : Int) := by omega
 have hk0 : (0 : Int) ≤ (k : Int) := by omega
 have HP := hide (h1.drop hk2)
 have HT := hide (h2.take hk2)
 have HM := hide hmix
 have HL : Hid ((data.take k).length + (page.drop k).length ≤ 140737488355328) := hide (by rw [List.length_take, List.length_drop]; omega)
 have HL2 : Hid (0 + (data.take k).length ≤ 140737488355328) := hide (by rw [List.length_take]; omega)
 clear h1 h2 hm1 hm2 hk hmix l1 l2
 go_enter Tryz.func77, Tryz.ntmps77
 go_wp2_with fail
 refine wp_region_held_drew (S := fun _ => True) (by kernel_rfl) (trivial) (fun hS0 => ?_)
 refine tk 1 ?_
 refine tk 2 ?_
 refine tk 3 ?_
 refine tk 5 ?_
 refine tk 6 ?_
 refine tk 7 ?_
 refine tr1 0 fun K hK => ?_
 go_simp
 refine hK.out _ _ (trivial) (fun hS6 => ?_)
 clear hK K
 try simp only [Act.put, qa, qb, qc, qd, qe, qf]
 refine tr1 4 fun K hK => ?_
 refine step_append_bs rfl (.tmp 10) (.tmp 13) rfl w.heap.size rfl (Ow.empty w.drew) rfl ((HT.out.drew).alloc _) HL2.out (by simp) ?_
 intro v1 w1 how hg hw1
 rw [List.nil_append] at how
 have hb1 : Below w.heap.size w w1 := below_grown (((Below.refl w.heap.size w).drew).alloc (Nat.le_refl _) _) hg (by simp) (Nat.le_refl _)
 have HO := hide how
 have HB1 := hide hb1
 obtain ⟨A3, q3, c3, rfl, hq, _, _⟩ := how.formN
 clear how hg hw1 hb1 hq
 refine hK.out _ _ (trivial) (fun hS7 => ?_)
 clear hK K
 try simp only [Act.put, qa, qb, qc, qd, qe, qf]
 refine tr1 8 fun K hK => ?_
 refine step_append_bs rfl (.tmp 14) (.tmp 17) rfl w.heap.size rfl HO.out rfl (HP.out.step HB1.out) HL.out HB1.out.size ?_
 intro v2 w2 how hg hw1
 have HO2 := hide how
 have HB2 : Hid (Below w.heap.size w w2) := hide (below_append HB1.out HO.out hg HB1.out.size (Nat.le_refl _))
 obtain ⟨A4, q4, c4, rfl, hq, _, _⟩ := how.formN
 clear how hg hw1 hq
 refine hK.out _ _ (trivial) (fun hS8 => ?_)
 clear hK K
 try simp only [Act.put, qa, qb, qc, qd, qe, qf]
 refine tk 9 ?_
 refine wpAnyH_done (by kernel_rfl) ?_ _
 go_wp2_with fail
 all_goals (go_ret; exact ⟨_, rfl, by rw [HM.out]; exact HO2.out, HB2.out⟩)
theorem Row.head {w : World} {t : TypeId} {size : Nat} {A : Option Addr} {n c : Nat} {cs : List Value} (h : Row w t size (.slice A n c) n cs) (hn : 0 < n) :
 ∃ g, A = some ⟨g, 0, none⟩ ∧ g < w.heap.size ∧ ∀ j, j < n * size → w.cell? ⟨g, j, none⟩ = cs[j]? ∧ w.frozen? ⟨g, j, none⟩ = false := by
 obtain ⟨hl, ⟨hv, h0⟩ | ⟨g, cap, cur, hv, hb, hh, hn2, hm2, hs2, ht2⟩⟩ := id h
 ·omega
 ·obtain ⟨rfl, rfl⟩ : A = some ⟨g, 0, none⟩ ∧ c = cap := by injection hv with e1 e2 e3; exact ⟨e1, e3⟩
  exact ⟨g, rfl, (World.ownsRow.lt h g rfl).2, fun j hj => ⟨World.ownsRow.cellAt h j hj, World.ownsRow.frozenAt h j⟩⟩
theorem Bs.form2 {w : World} {v : Value} {l : List UInt8} (h : Bs w v l) : ∃ A m c, v = .slice A m c := by obtain ⟨A, c, e, _⟩ := h; exact ⟨A, _, c, e⟩
/-- What the loop of Read has found. -/
def lastP (D : DS) (p k : Nat) : List UInt8 := ((D.pages.getD p [] :: ((D.pend.take k).filter (fun w => w.1 == p)).map (·.2)).getLast?).getD []
theorem lastP_zero (D : DS) (p : Nat) : lastP D p 0 = D.pages.getD p [] := by simp [lastP]
theorem lastP_all (D : DS) (p : Nat) : lastP D p D.pend.length = content D p := by unfold lastP content hist; rw [List.take_length]
theorem lastP_succ (D : DS) (p k : Nat) (h : k < D.pend.length) : lastP D p (k + 1) = if (D.pend[k]).1 = p then (D.pend[k]).2 else lastP D p k := by
 unfold lastP
 rw [List.take_succ_eq_append_getElem h, List.filter_append]
 by_cases hp : (D.pend[k]).1 = p
 ·rw [if_pos hp]
  simp only [List.filter_cons, List.filter_nil, hp, beq_self_eq_true, if_true, List.map_append, List.map_cons, List.map_nil]
  rw [← List.cons_append, List.getLast?_append]
  simp
 ·rw [if_neg hp]
  have : ((D.pend[k]).1 == p) = false := by simpa using hp
  simp only [List.filter_cons, List.filter_nil, this, List.append_nil]
  simp
/-- A slice of bytes and a code; nothing that was there has turned. -/
def RGot (w : World) (r : List UInt8 × Int) (e : Ending) (w' : World) : Prop := ∃ v, e = .returned (.tuple #[v, .int .i64 r.2]) ∧ Ow w' w.heap.size v r.1 ∧ Below w.heap.size w w'
set_option maxRecDepth 100000 in
set_option maxHeartbeats 2000000 in
theorem rread_c (F : List Nat) (v : Value) (D : DS) (p : Int) (w : World) (h : Rf w F v D) (hpl : D.pend.length ≤ 1000000) (hpg : D.pages.length ≤ 1000000) :
 Calls Tryz.prog 51 #[v, .int .i64 p] w (RGot w (dRead D p)) := by
 obtain ⟨dv, pv, vs, xs, rfl, hk⟩ := h
 obtain ⟨A, c, rfl, hc, hcm⟩ := hk.dur.form
 obtain ⟨B, b, rfl, hb, hbm⟩ := hk.pend.form
 have H := hide hk
 have HPL := hide hpl
 clear hk hpl
 unfold rv
 cases hfl : D.failed with
 | true =>
  have hr : dRead D p = ([], 10) := by unfold dRead; rw [if_pos hfl]
  rw [hr]
  generalize D.pages.length = n at *
  generalize D.pend.length = m at *
  go_enter Tryz.func51, Tryz.ntmps51
  go_wp2_with fail
  go_ret2
  exact ⟨_, rfl, Ow.nil _ _, (Below.refl _ _).alloc (Nat.le_refl _) _⟩
 | false =>
  by_cases hp : 0 ≤ p ∧ p < D.pages.length
  ·obtain ⟨q, rfl⟩ : ∃ q : Nat, p = q := ⟨p.toNat, by omega⟩
   have hq : q < D.pages.length := by omega
   have hr : dRead D (q : Int) = (content D q, 0) := by unfold dRead; rw [if_neg (by simp [hfl]), if_pos ((thereB_iff D q).2 ⟨by omega, by omega⟩)]; rfl
   rw [hr]
   obtain ⟨g, rfl, hg, hcells⟩ := H.out.dur.head (by omega)
   have hvs := H.out.pgs.len
   have c0 := (hcells q (by omega)).1
   obtain ⟨v0, hv0⟩ : ∃ v0, vs[q]? = some v0 := ⟨_, List.getElem?_eq_getElem (by omega)⟩
   rw [hv0] at c0
   have hv0b := H.out.pgs.at_ q v0 _ hv0 (List.getElem?_eq_getElem hq)
   have hl0 : Bs w v0 (lastP D q 0) := by rw [lastP_zero, List.getD_eq_getElem?_getD, List.getElem?_eq_getElem hq]; exact hv0b.1
   obtain ⟨A0, m0, k0, rfl⟩ := hv0b.1.form2
   have HL0 := hide hl0
   have hqi : (q : Int) < (D.pages.length : Int) := by omega
   clear hr hcells hvs hv0 hv0b hl0 hp hq
   go_enter Tryz.func51, Tryz.ntmps51
   go_wp2_with fail
   have HLB : Hid (∀ k, k ≤ D.pend.length → (lastP D q k).length = 128) := hide (fun k hk => by
    induction k with
    | zero => rw [lastP_zero, List.getD_eq_getElem?_getD, List.getElem?_eq_getElem (by omega)]; exact H.out.ok.pages _ (List.getElem_mem _)
    | succ k ih =>
     rw [lastP_succ D q k (by omega)]
     split
     ·exact (H.out.ok.pend _ (List.getElem_mem _)).2
     ·exact ih (by omega))
   have HALL := hide (lastP_all D q)
   have HPG := hide hpg
   clear c0 hqi hpg
   go_loop [6, 7] (fun vo vi => ∃ (k A m c : Nat), vi = .int .i64 k ∧ k ≤ D.pend.length ∧ Bs w vo (lastP D q k)) (fun _ vi => D.pend.length - (intOf vi).toNat)
   case atStart => exact ⟨0, 0, 0, 0, rfl, Nat.zero_le _, HL0.out⟩
   case round =>
    obtain ⟨k, _, _, _, rfl, hk, hbs⟩ := hrel
    obtain ⟨A1, m1, c1, rfl⟩ := hbs.form2
    have HBS := hide hbs
    have HK := hide hk
    clear hbs hk
    by_cases hlt : k < D.pend.length
    ·obtain ⟨g2, rfl, hg2, hcells⟩ := H.out.pend.head (by omega)
     have hlx := H.out.pds.len
     obtain ⟨⟨px, vx⟩, hx⟩ : ∃ x, xs[k]? = some x := ⟨_, List.getElem?_eq_getElem (by omega)⟩
     have c0 := (hcells (k * 2) (by omega)).1
     have c1' := (hcells (k * 2 + 1) (by omega)).1
     rw [(pc_at xs k _ hx).1] at c0
     rw [(pc_at xs k _ hx).2] at c1'
     obtain ⟨hpx, hvx, hvA⟩ := H.out.pds.at_ k _ _ hx (List.getElem?_eq_getElem hlt)
     obtain ⟨A2, m2, c2, rfl⟩ := hvx.form2
     have HS := hide (lastP_succ D q k hlt)
     have HVX := hide hvx
     have HLT := hide hlt
     have hkn : (k : Int) < (D.pend.length : Int) := by omega
     have HPX := hide hpx
     clear hcells hlx hx hvx hvA hpx
     by_cases hpq : px = q
     ·subst hpq
      have hbool : ((px : Int) == (px : Int)) = true := by simp
      go_wp2_with fail
      go_round
      case rel => exact ⟨k + 1, 0, 0, 0, by go_num, by have := HLT.out; omega, by rw [HS.out, if_pos HPX.out.symm]; exact HVX.out⟩
      case measure => have := HLT.out; simp [intOf]; omega
     ·have hbool : ((px : Int) == (q : Int)) = false := by simp; omega
      have HPQ := hide hpq
      clear hpq
      go_wp2_with fail
      go_round
      case rel => exact ⟨k + 1, 0, 0, 0, by go_num, by have := HLT.out; omega, by rw [HS.out, if_neg (fun e => HPQ.out (HPX.out.trans e))]; exact HBS.out⟩
      case measure => have := HLT.out; simp [intOf]; omega
    ·obtain rfl : k = D.pend.length := by have := HK.out; omega
     rw [HALL.out] at HBS
     have HL2 : Hid (0 + (content D q).length ≤ 140737488355328) := hide (by rw [← HALL.out, HLB.out _ (Nat.le_refl _)]; omega)
     clear hlt HK HLB HALL HPG HPL
     go_wp2_with (at_builtin; refine wpList_append_bs rfl _ _ rfl w.heap.size (l := []) (m := content D q) rfl (Ow.empty1 w _ w.heap.size (Nat.le_succ _)) rfl ((HBS.out.alloc _).alloc _) HL2.out (by simp [Nat.add_assoc]) ?_; intro v1 w1 how hg hw)
     go_ret2
     exact ⟨_, rfl, how, below_grown (below_two w _ _) hg (by simp [Nat.add_assoc]) (by simp)⟩
  ·have hr : dRead D p = ([], 2) := by
    unfold dRead
    rw [if_neg (by simp [hfl]), if_neg (by rw [thereB_iff]; exact hp)]
   rw [hr]
   generalize D.pages.length = n at *
   generalize D.pend.length = m at *
   by_cases h0 : p < 0
   ·clear hr hp
    go_enter Tryz.func51, Tryz.ntmps51
    go_wp2_with fail
    go_ret2
    exact ⟨_, rfl, Ow.nil _ _, (Below.refl _ _).alloc (Nat.le_refl _) _⟩
   ·have h1 : (n : Int) ≤ p := by omega
    have h2 : 0 ≤ p := by omega
    clear hr hp h0
    go_enter Tryz.func51, Tryz.ntmps51
    go_wp2_with fail
    go_ret2
    exact ⟨_, rfl, Ow.nil _ _, (Below.refl _ _).alloc (Nat.le_refl _) _⟩
end
end Go.Proofs.YtpadgkkeihhneaaGreat
