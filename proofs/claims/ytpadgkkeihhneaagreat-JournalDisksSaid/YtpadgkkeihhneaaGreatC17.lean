/- The reference's Put. -/
import Derived.Test.YtpadgkkeihhneaaGreatC16
import Derived.Test.YtpadgkkeihhneaaGreatC01
namespace Go.Proofs.YtpadgkkeihhneaaGreat
set_option maxRecDepth 100000
set_option linter.unusedSimpArgs false
set_option linter.unusedVariables false
open Go.ChangeShapes Go.WideShapes Go.ChangeAt Go.RowKit
/-- append(v, x...): v the call's own, x a row that is there (or nil). -/
theorem run_append_row {P : Program} {w : World} (base b2 : Nat) (t ty e : TypeId) (i : TypeInfo) (z : Value) (size bytes : Nat) (ht : P.underlying t = some (.slice e)) (hi : P.info? e = some i) (hz : i.zero = some z)
 (hsize : i.size = size) (hby : i.bytes = bytes) (hzs : z.cells.size = size) (hsz : 0 < size) {v x : Value} {n m : Nat} {xs news : List Value} (hv : w.ownsRow base e size v n xs) (hx : w.ownsRow b2 e size x m news)
 (h1 : ∀ u ∈ news, u.oneCell' = true) (h63 : n + m ≤ maxLen) (hbytes : (n + m) * bytes ≤ 140737488355328) (hbase : base ≤ w.heap.size) :
 ∃ v' w', (Builtin.append_ #[t, t] ty #[v, x]).run P w = .ok v' w' ∧ w'.ownsRow base e size v' (n + m) (xs ++ news) ∧ w.grownBy w' v.ownBlock ∧ (v'.ownBlock = v.ownBlock ∨ v'.ownBlock = some w.heap.size) := by
 have hx2 := hx.2
 rcases hx2 with ⟨rfl, rfl⟩ | ⟨g, cap, cur, rfl, hg, hh, hn, hm, hs, htk⟩
 ·have hnn : news = [] := List.eq_nil_of_length_eq_zero (by rw [hx.1, Nat.zero_mul])
  subst hnn
  refine ⟨v, w, ?_, by simpa using hv, grown_refl _ _, .inl rfl⟩
  obtain ⟨_, ⟨rfl, _⟩ | ⟨g, cap, cur, rfl, _, _, hn, _⟩⟩ := hv
  ·simp [Builtin.append_, run_underlying ht, sizeOf, typeInfo, hi, Builtin.lenOf, Builtin.firstCells]
  ·simp [Builtin.append_, run_underlying ht, sizeOf, typeInfo, hi, Builtin.lenOf, Builtin.firstCells, hn, storeCells]
 ·obtain ⟨v', w', h4, h5, h6, _, h7⟩ := run_append_own_at (P := P) w base t ty e i z size bytes ht hi hz hsize hby hzs hsz v n xs hv ⟨g, 0, none⟩ m cap news hx.1 (World.ownsRow.cells hx (g := g) rfl) h1 h63 hbytes hbase
  exact ⟨v', w', h4, h5, h6, h7⟩
theorem wpList_append_row {P : Program} {w : World} {ops : Array Oper} {rest : List Oper} {o : Oper} {a : Act} {Q : Exit → Act → World → Prop} (hgd : o.guard = none) (s x : Operand) (t : TypeId)
 (ho : o.op = .call { callee := .builtin .append, args := #[s, x], argTypes := #[t, t] }) (base b2 : Nat) (e : TypeId) (i : TypeInfo) (z : Value) (size bytes : Nat) (ht : P.underlying t = some (.slice e)) (hi : P.info? e = some i) (hz : i.zero = some z)
 (hsize : i.size = size) (hby : i.bytes = bytes) (hzs : z.cells.size = size) (hsz : 0 < size) {v vx : Value} {n m : Nat} {xs news : List Value} (hs : a.eval s = v) (hv : w.ownsRow base e size v n xs) (hvx : a.eval x = vx) (hx : w.ownsRow b2 e size vx m news)
 (h1 : ∀ u ∈ news, u.oneCell' = true) (h63 : n + m ≤ maxLen) (hbytes : (n + m) * bytes ≤ 140737488355328) (hbase : base ≤ w.heap.size)
 (h : ∀ v' w', w'.ownsRow base e size v' (n + m) (xs ++ news) → w.grownBy w' v.ownBlock → (v'.ownBlock = v.ownBlock ∨ v'.ownBlock = some w.heap.size) → wpList P ops Q rest (a.put o.dst v') w') : wpList P ops Q (o :: rest) a w := by
 refine wpList_plain hgd fun K hK => ?_
 obtain ⟨v', w', hr, h2, h3, h4⟩ := run_append_row (P := P) base b2 t o.type e i z size bytes ht hi hz hsize hby hzs hsz hv hx h1 h63 hbytes hbase
 unfold Oper.wp execOp
 simp only [ho, resolve, invoke, builtin, Sem.run_bind, Sem.run_pure, Result.andThen_ok, List.map_toArray, List.map_cons, List.map_nil, hs, hvx, hr]
 exact hK _ _ (h v' w' h2 h3 h4)
theorem step_append_row {P : Program} {w : World} {ops : Array Oper} {o : Oper} {a : Act} {K : Act → World → Prop} {Q : Exit → Act → World → Prop} {E : Prop} (hgd : o.guard = none) (s x : Operand) (t : TypeId)
 (ho : o.op = .call { callee := .builtin .append, args := #[s, x], argTypes := #[t, t] }) (base b2 : Nat) (e : TypeId) (i : TypeInfo) (z : Value) (size bytes : Nat) (ht : P.underlying t = some (.slice e)) (hi : P.info? e = some i) (hz : i.zero = some z)
 (hsize : i.size = size) (hby : i.bytes = bytes) (hzs : z.cells.size = size) (hsz : 0 < size) {v vx : Value} {n m : Nat} {xs news : List Value} (hs : a.eval s = v) (hv : w.ownsRow base e size v n xs) (hvx : a.eval x = vx) (hx : w.ownsRow b2 e size vx m news)
 (h1 : ∀ u ∈ news, u.oneCell' = true) (h63 : n + m ≤ maxLen) (hbytes : (n + m) * bytes ≤ 140737488355328) (hbase : base ≤ w.heap.size)
 (h : ∀ v' w', w'.ownsRow base e size v' (n + m) (xs ++ news) → w.grownBy w' v.ownBlock → (v'.ownBlock = v.ownBlock ∨ v'.ownBlock = some w.heap.size) → K (a.put o.dst v') w') :
 if Region.wanted o (yielded ops a.tmps) = true then Oper.wp P o a w K Q else E := by
 have hw : Region.wanted o (yielded ops a.tmps) = true := by simp [Region.wanted, hgd]
 rw [if_pos hw]
 obtain ⟨v', w', hr, h2, h3, h4⟩ := run_append_row (P := P) base b2 t o.type e i z size bytes ht hi hz hsize hby hzs hsz hv hx h1 h63 hbytes hbase
 unfold Oper.wp execOp
 simp only [ho, resolve, invoke, builtin, Sem.run_bind, Sem.run_pure, Result.andThen_ok, List.map_toArray, List.map_cons, List.map_nil, hs, hvx, hr]
 exact h v' w' h2 h3 h4
/-- A new block of just these cells, as a slice. -/
theorem row_lit (w : World) (base : Nat) (t : TypeId) (size n : Nat) (cs : List Value) (hl : cs.length = n * size) (hn : n ≤ maxLen) (hb : base ≤ w.heap.size) :
 (w.alloc (.cells cs.toArray t)).ownsRow base t size (.slice (some ⟨w.heap.size, 0, none⟩) n n) n cs :=
 ⟨hl, .inr ⟨w.heap.size, n, cs.toArray, rfl, hb, heap_alloc_new w _, Nat.le_refl _, hn, by simpa using hl, by rw [List.take_of_length_le (by simp; omega)]⟩⟩
theorem info_wr : (Tryz.prog.info? 84).map (fun i => (i.zero, i.size, i.bytes)) = some (some (.agg #[.int .i64 0, .slice none 0 0]), 2, 32) := by kernel_rfl
theorem info_sl : (Tryz.prog.info? 35).map (fun i => (i.zero, i.size, i.bytes)) = some (some (.slice none 0 0), 1, 24) := by kernel_rfl
theorem Bs.one {w : World} {v : Value} {l : List UInt8} (h : Bs w v l) : v.oneCell' = true := by obtain ⟨A, m, c, rfl⟩ := h.form2; rfl
theorem pc_one {w : World} {F : List Nat} {xs : List (Nat × Value)} {ws : List (Nat × List UInt8)} (h : Pds w F xs ws) : ∀ u ∈ pc xs, u.oneCell' = true := by
 intro u hu
 unfold pc at hu
 obtain ⟨l, hl, hul⟩ := List.mem_flatten.1 hu
 obtain ⟨x, hx, rfl⟩ := List.mem_map.1 hl
 obtain ⟨i, hi⟩ := List.mem_iff_getElem?.1 hx
 have hlt := (List.getElem?_eq_some_iff.1 hi).1
 have := (h.at_ i x _ hi (List.getElem?_eq_getElem (by have := h.len; omega))).2.1
 simp at hul
 rcases hul with rfl | rfl
 ·rfl
 ·exact this.one
theorem pgs_one {w : World} {F : List Nat} {vs : List Value} {ps : List (List UInt8)} (h : Pgs w F vs ps) : ∀ u ∈ vs, u.oneCell' = true := by
 intro u hu
 obtain ⟨i, hi⟩ := List.mem_iff_getElem?.1 hu
 have hlt := (List.getElem?_eq_some_iff.1 hi).1
 exact (h.at_ i u _ hi (List.getElem?_eq_getElem (by have := h.len; omega))).1.one
theorem blk4 {w : World} {g : Nat} {t : TypeId} {a b c d : Value} (h : Blk w g t #[a, b, c, d]) :
 w.cell? ⟨g, 0, none⟩ = some a ∧ w.cell? ⟨g, 1, none⟩ = some b ∧ w.cell? ⟨g, 2, none⟩ = some c ∧ w.cell? ⟨g, 3, none⟩ = some d ∧
 w.frozen? ⟨g, 0, none⟩ = false ∧ w.frozen? ⟨g, 1, none⟩ = false ∧ w.frozen? ⟨g, 2, none⟩ = false ∧ w.frozen? ⟨g, 3, none⟩ = false :=
 ⟨h.cell 0, h.cell 1, h.cell 2, h.cell 3, h.froz 0, h.froz 1, h.froz 2, h.froz 3⟩
theorem dWrite_pages (D : DS) (p : Int) (data : List UInt8) : (dWrite D p data).1.pages = D.pages := by
 have hb := dBurn_pages D
 unfold dWrite
 split
 ·rfl
 split
 ·rfl
 split
 ·rfl
 split
 ·exact hb.1
 ·exact hb.1
theorem dWrite_pend (D : DS) (p : Int) (data : List UInt8) (h : (dWrite D p data).2 ≠ 0) : (dWrite D p data).1.pend = D.pend := by
 have hb := dBurn_pages D
 unfold dWrite at h ⊢
 split
 ·rfl
 split
 ·rfl
 split
 ·rfl
 split
 ·rename_i h1 h2 h3 h4
  rw [if_neg h1, if_neg h2, if_neg h3, if_pos h4] at h
  exact absurd rfl h
 ·exact hb.2
theorem dWrite_zero (D : DS) (p : Int) (data : List UInt8) (h : (dWrite D p data).2 = 0) :
 D.failed = false ∧ data.length = 128 ∧ thereB D p = true ∧ (dBurn D).2 = 0 ∧ dWrite D p data = ({ (dBurn D).1 with pend := (dBurn D).1.pend ++ [(p.toNat, data)] }, 0) := by
 unfold dWrite at h ⊢
 split at h
 ·simp at h
 split at h
 ·simp at h
 split at h
 ·simp at h
 rename_i h1 h2 h3
 split at h
 ·rename_i h4
  rw [if_neg h1, if_neg h2, if_neg h3, if_pos h4]
  exact ⟨by simpa using h1, by simpa using h2, by simpa using h3, h4, rfl⟩
 ·rename_i h4
  exact absurd h h4
theorem one_rv (A : Option Addr) (n c : Nat) (B : Option Addr) (m b : Nat) (z : Int) (x : Bool) : (#[Value.slice A n c, .slice B m b, .int .i64 z, .bool x] : Array Value).all (·.oneCell') = true := by simp [Value.oneCell']
theorem own_far {v : Value} {n : Nat} {a b : Nat} (h : ∀ j, v.ownBlock = some j → j < n) : v.ownBlock = none ∨ v.ownBlock ≠ (Value.slice (some ⟨n, 0, none⟩) a b).ownBlock := by
 cases hv : v.ownBlock with
 | none => exact .inl rfl
 | some j =>
  right; intro e
  have e : j = n := by injection e
  have := h j hv; omega
theorem one_two (q : Int) (A : Option Addr) (m c : Nat) : ∀ u ∈ [Value.int .i64 q, .slice A m c], u.oneCell' = true := by intro u hu; simp at hu; rcases hu with rfl | rfl <;> rfl
theorem size_disk : (Tryz.prog.info? 32).map (·.size) = some 4 := by kernel_rfl
/-- A call that hands back the same two slices and a code. -/
def Val2E (w : World) (A : Option Addr) (n c : Nat) (B : Option Addr) (m b : Nat) (D : DS) (z : Int) (e : Ending) (w' : World) : Prop := e = .returned (.tuple #[rv (.slice A n c) (.slice B m b) D, .int .i64 z]) ∧ Below w.heap.size w w'
set_option maxRecDepth 100000 in
set_option maxHeartbeats 2000000 in
theorem put_bad (A : Option Addr) (c : Nat) (B : Option Addr) (b : Nat) (D : DS) (p : Int) (data : List UInt8) (vd : Value) (w : World) (hd : Bs w vd data) (hok : D.Ok) (h : (dWrite D p data).2 ≠ 0) :
 Calls Tryz.prog 13 #[rv (.slice A D.pages.length c) (.slice B D.pend.length b) D, .int .i64 p, vd] w (Val2E w A D.pages.length c B D.pend.length b (dWrite D p data).1 (dWrite D p data).2) := by
 obtain ⟨Ad, md, cd, rfl, hmd, _, _⟩ := hd.formN
 have hf := hok.fuse
 have HD := hide hd
 clear hd
 unfold Val2E
 cases hfl : D.failed with
 | true =>
  have e : dWrite D p data = (D, 10) := by unfold dWrite; rw [if_pos hfl]
  rw [e]
  clear e h
  unfold rv
  rw [hfl]
  generalize D.pages.length = n at *
  generalize D.pend.length = m at *
  generalize D.fuse = z at *
  go_enter Tryz.func13, Tryz.ntmps13
  go_wp2_with fail
  refine bodyPost_ret (v := .tuple #[.agg #[.slice A n c, .slice B m b, .int .i64 z, .bool true], .int .i64 10]) (by simp [results, Tryz.results13, go_sem]) rfl ?_
  exact ⟨rfl, below_two _ _ _⟩
 | false =>
  by_cases hl : data.length = 128
  ·obtain rfl : md = 128 := hmd.out.trans hl
   have hth : thereB D p = decide (0 ≤ p ∧ p < D.pages.length) := by unfold thereB; simp
   by_cases hp : 0 ≤ p ∧ p < D.pages.length
   ·have hb0 : D.fuse = 0 := by
     apply Decidable.byContradiction
     intro hne
     apply h
     have hb2 : (dBurn D).2 = 0 := by unfold dBurn; rw [if_neg hne]; split <;> rfl
     unfold dWrite
     rw [if_neg (by simp [hfl]), if_neg (by simp [hl]), if_neg (by rw [hth]; simpa using hp), if_pos hb2]
    have hb : dBurn D = ({ D with failed := true }, 10) := by unfold dBurn; rw [if_pos hb0]
    have e : dWrite D p data = ({ D with failed := true }, 10) := by
     unfold dWrite
     rw [if_neg (by simp [hfl]), if_neg (by simp [hl]), if_neg (by rw [hth]; simpa using hp), if_neg (by rw [hb]; simp), hb]
    rw [e]
    obtain ⟨hp1, hp2⟩ := hp
    clear h e hth hl hmd
    have HBU := hide (fun w => burn_v A D.pages.length c B D.pend.length b D hf w)
    rw [hb] at HBU
    unfold Val2 rv at HBU
    unfold rv
    simp only at HBU ⊢
    rw [hfl] at HBU ⊢
    rw [hb0] at HBU ⊢
    clear hb hb0 hf
    generalize D.pages.length = n at *
    generalize D.pend.length = m at *
    go_enter Tryz.func13, Tryz.ntmps13
    go_wp2_with fail
    refine (HBU.out _).mono ?_
    rintro e w1 ⟨rfl, hb1⟩
    have hx1 : Blk w1 w.heap.size 32 #[.slice A n c, .slice B m b, .int .i64 0, .bool false] := ((Blk.new w 32 _).alloc _).step hb1
    have hx2 : Blk w1 (w.heap.size + 1) 32 #[.slice none 0 0, .slice none 0 0, .int .i64 0, .bool false] := by
     have h := Blk.new (w.alloc (Obj.cells #[Value.slice A n c, Value.slice B m b, Value.int IntKind.i64 0, Value.bool false] 32)) 32 #[.slice none 0 0, .slice none 0 0, .int .i64 0, .bool false]
     rw [World.size_alloc] at h
     exact h.step hb1
    have HB1 : Hid (Below w.heap.size w w1) := hide ((below_two w _ _).trans (hb1.mono (by simp [Nat.add_assoc])))
    obtain ⟨k0, k1, k2, k3, f0, f1, f2, f3⟩ := blk4 hx1
    obtain ⟨j0, j1, j2, j3, g0, g1, g2, g3⟩ := blk4 hx2
    have HX2 := hide hx2
    clear hb1 hx1 hx2
    go_wp2_with fail
    refine bodyPost_ret (results_row_tmp rfl _ _ (w.heap.size + 1) 32 #[.slice A n c, .slice B m b, .int .i64 0, .bool true] (0, 0) _ (.int .i64 10) rfl rfl ?hr Tryz.underlying32 rfl size_disk) rfl ?hp
    case hr => exact ((((((((HX2.out.far (by simp) _).far (by simp) _).far (by simp) _).far (by simp) _).put 0 _).put 1 _).put 2 _).put 3 _)
    case hp => exact ⟨rfl, ((((((((HB1.out.setCell (Nat.le_refl _) _).setCell (Nat.le_refl _) _).setCell (Nat.le_refl _) _).setCell (Nat.le_refl _) _).setCell (Nat.le_succ _) _).setCell (Nat.le_succ _) _).setCell (Nat.le_succ _) _).setCell (Nat.le_succ _) _)⟩
   ·have e : dWrite D p data = (D, 2) := by
     unfold dWrite
     rw [if_neg (by simp [hfl]), if_neg (by simp [hl]), if_pos (by rw [hth]; simpa using hp)]
    rw [e]
    clear h e hth hl hmd
    unfold rv
    rw [hfl]
    generalize D.pages.length = n at *
    generalize D.pend.length = m at *
    generalize D.fuse = z at *
    by_cases h0 : p < 0
    ·clear hp
     go_enter Tryz.func13, Tryz.ntmps13
     go_wp2_with fail
     refine bodyPost_ret (v := .tuple #[.agg #[.slice A n c, .slice B m b, .int .i64 z, .bool false], .int .i64 2]) (by simp [results, Tryz.results13, go_sem]) rfl ?_
     exact ⟨rfl, below_two _ _ _⟩
    ·have h1 : (n : Int) ≤ p := by omega
     have h2 : 0 ≤ p := by omega
     clear hp h0
     go_enter Tryz.func13, Tryz.ntmps13
     go_wp2_with fail
     refine bodyPost_ret (v := .tuple #[.agg #[.slice A n c, .slice B m b, .int .i64 z, .bool false], .int .i64 2]) (by simp [results, Tryz.results13, go_sem]) rfl ?_
     exact ⟨rfl, below_two _ _ _⟩
  ·have e : dWrite D p data = (D, 1) := by unfold dWrite; rw [if_neg (by simp [hfl]), if_pos (by simpa using hl)]
   rw [e]
   have hmb : ((md : Int) == (128 : Int)) = false := by have := hmd.out; simp; omega
   clear h e hl hmd
   unfold rv
   rw [hfl]
   generalize D.pages.length = n at *
   generalize D.pend.length = m at *
   generalize D.fuse = z at *
   go_enter Tryz.func13, Tryz.ntmps13
   go_wp2_with fail
   refine bodyPost_ret (v := .tuple #[.agg #[.slice A n c, .slice B m b, .int .i64 z, .bool false], .int .i64 1]) (by simp [results, Tryz.results13, go_sem]) rfl ?_
   exact ⟨rfl, below_two _ _ _⟩
set_option maxRecDepth 100000 in
set_option maxHeartbeats 4000000 in
theorem put_c (F : List Nat) (v : Value) (D : DS) (p : Int) (data : List UInt8) (vd : Value) (w : World) (h : Rf w F v D) (hF : ∀ j ∈ F, j < w.heap.size) (hd : Bs w vd data) (hpl : D.pend.length ≤ 1000000) :
 Calls Tryz.prog 13 #[v, .int .i64 p, vd] w (GivesRE w F (dWrite D p data)) := by
 obtain ⟨dv, pv, vs, xs, rfl, hk⟩ := h
 obtain ⟨A, c, rfl, hc, hcm⟩ := hk.dur.form
 obtain ⟨B, b, rfl, hb, hbm⟩ := hk.pend.form
 by_cases hz : (dWrite D p data).2 = 0
 case neg =>
  refine (put_bad A c B b D p data vd w hd hk.ok hz).mono ?_
  rintro e w' ⟨rfl, hb⟩
  refine ⟨_, rfl, ⟨_, _, vs, xs, rfl, (hk.step hb).other ?_ ?_ (dWrite_ok hk.ok p data)⟩, hb⟩
  ·exact dWrite_pages D p data
  ·exact dWrite_pend D p data hz
 obtain ⟨hfl, hl, hth, hb2, hw⟩ := dWrite_zero D p data hz
 obtain ⟨hp1, hp2⟩ := (thereB_iff D p).1 hth
 obtain ⟨q, rfl⟩ : ∃ q : Nat, p = q := ⟨p.toNat, by omega⟩
 have hbf : (dBurn D).1.failed = false := by
  unfold dBurn at hb2 ⊢
  split
  ·rename_i h0; rw [if_pos h0] at hb2; simp at hb2
  ·split <;> simpa using hfl
 rw [hw]
 have HBU := hide (fun w => burn_v A D.pages.length c B D.pend.length b D hk.ok.fuse w)
 have HOK := hide (dBurn_ok hk.ok)
 have HPP := hide (dBurn_pages D)
 have HWO : Hid ({ (dBurn D).1 with pend := (dBurn D).1.pend ++ [(q, data)] } : DS).Ok := hide (by have := dWrite_ok hk.ok q data; rw [hw] at this; exact this)
 unfold Val2 rv at HBU
 unfold GivesRE
 generalize hD1 : (dBurn D).1 = D1 at *
 rw [hbf] at HBU
 unfold rv
 rw [hfl] at HBU ⊢
 obtain ⟨Ad, md, cd, rfl, hmd, hmc, hmm⟩ := hd.formN
 obtain rfl : md = 128 := hmd.out.trans hl
 have HD := hide hd
 have HK := hide hk
 have HPL := hide hpl
 have HL := hide hl
 have HFF := hide hF
 have HBF := hide hbf
 have HL0 : Hid (([] : List UInt8).length + data.length ≤ 140737488355328) := hide (by rw [hl]; decide)
 have hD : True := trivial
 clear hz hw hd hk hpl hl hth hb2 hD1 hmd hF
 obtain ⟨n, hn⟩ : ∃ n, n = D.pages.length := ⟨_, rfl⟩
 obtain ⟨m, hm⟩ : ∃ m, m = D.pend.length := ⟨_, rfl⟩
 have HN := hide hn
 have HM := hide hm
 rw [← hn] at hc HBU HK hp2 ⊢
 rw [← hm] at hb HBU HK ⊢
 clear hn hm
 generalize hz0 : D.fuse = z0 at *
 generalize hz1 : D1.fuse = z1 at *
 have HZ1 := hide hz1
 clear hz0 hz1
 go_enter Tryz.func13, Tryz.ntmps13
 go_wp2_with fail
 refine (HBU.out _).mono ?_
 rintro e w1 ⟨rfl, hb1⟩
 have hx1 : Blk w1 w.heap.size 32 #[.slice A n c, .slice B m b, .int .i64 z0, .bool false] := ((Blk.new w 32 _).alloc _).step hb1
 have hx2 : Blk w1 (w.heap.size + 1) 32 #[.slice none 0 0, .slice none 0 0, .int .i64 0, .bool false] := by
  have h := Blk.new (w.alloc (Obj.cells #[Value.slice A n c, Value.slice B m b, Value.int IntKind.i64 z0, Value.bool false] 32)) 32 #[.slice none 0 0, .slice none 0 0, .int .i64 0, .bool false]
  rw [World.size_alloc] at h
  exact h.step hb1
 have hsz1 : w.heap.size + 2 ≤ w1.heap.size := by have := hb1.size; simp at this; omega
 have HB1 : Hid (Below w.heap.size w w1) := hide ((below_two w _ _).trans (hb1.mono (by simp [Nat.add_assoc])))
 have HX := hide hx1
 have HX0 := hide hx2
 have HS1 := hide hsz1
 obtain ⟨i0, hi0, hz0, hz1, hz2⟩ := info_parts info_wr
 clear hb1 hx1 hx2 hsz1
 go_wp2_with (first
  | (refine wpList_store_blk rfl 32 (.tmp 3) (.tmp 26) rfl w.heap.size 32 #[.slice A n c, .slice B m b, .int .i64 z0, .bool false] #[.slice A n c, .slice B m b, .int .i64 z1, .bool false] rfl rfl HX.out rfl size_disk (one_rv _ _ _ _ _ _ _ _) ?_; intro W2 hx1 ht2 hs2; obtain ⟨k0, k1, k2, k3, f0, f1, f2, f3⟩ := blk4 hx1; have hlt2 : w.heap.size < W2.heap.size := (by rw [hs2]; exact Nat.lt_of_lt_of_le (by omega) HS1.out); have HX1 := hide hx1; have HT2 := hide ht2; have HS2 := hide hs2; have HB2 : Hid (Below w.heap.size w W2) := hide (Below.touch HB1.out ht2 (by simp) HB1.out.size); have HX2 : Hid (Blk W2 (w.heap.size + 1) 32 #[.slice none 0 0, .slice none 0 0, .int .i64 0, .bool false]) := hide (HX0.out.touch ht2 (by simp)); have HK2 := hide (HK.out.step HB2.out); have HP2 : Hid (Row W2 84 2 (.slice B m b) m (pc xs)) := hide (by have := HK2.out.pend; rwa [← HM.out] at this); have HPO := hide (pc_one HK2.out.pds); clear hx1 ht2 hs2 HX HX0)
  | (refine wpList_append_row rfl (.tmp 30) (.tmp 32) 30 rfl w.heap.size 0 84 i0 _ 2 32 Tryz.underlying30 hi0 hz0 hz1 hz2 rfl (by decide) (v := .slice (some ⟨W2.heap.size, 0, none⟩) 0 0) rfl (ownsRow_empty _ w.heap.size 84 2 (Nat.le_of_lt hlt2)) rfl (HP2.out.alloc _) HPO.out (by have := HPL.out; have := HM.out; unfold maxLen; omega) (by have := HPL.out; have := HM.out; omega) (Nat.le_trans HB2.out.size (Nat.le_of_lt (by simp))) ?_; intro v1 W3 how hg hat; rw [Nat.zero_add, List.nil_append] at how; have HO1 := hide how; have HG1 := hide hg; have HA1 := hide hat; have HB3 : Hid (Below w.heap.size w W3) := hide (below_grown (HB2.out.alloc HB2.out.size _) hg (by rw [World.size_alloc]; exact Nat.le_succ_of_le HB2.out.size) HB2.out.size); have HS3 : Hid (W2.heap.size + 1 ≤ W3.heap.size) := hide (by have := hg.size; rwa [World.size_alloc] at this); clear how hg hat)
  | (refine wpList_append_bs rfl (.tmp 35) (.tmp 36) rfl w.heap.size (v := .slice (some ⟨W3.heap.size, 0, none⟩) 0 0) (l := []) (m := data) rfl ((Ow.empty W3).mono HB3.out.size) rfl ((HD.out.step HB3.out).alloc _) HL0.out (Nat.le_trans HB3.out.size (Nat.le_of_lt (by simp))) ?_; intro v2 W4 how hg hat; rw [List.nil_append] at how; obtain ⟨A2, m2, c2, rfl, hm2, _, _⟩ := how.formN; have HO2 := hide how; have HG2 := hide hg; have HA2 := hide hat; have HB4 : Hid (Below w.heap.size w W4) := hide (below_grown (HB3.out.alloc HB3.out.size _) hg (by rw [World.size_alloc]; exact Nat.le_succ_of_le HB3.out.size) HB3.out.size); have HS4 : Hid (W3.heap.size + 1 ≤ W4.heap.size) := hide (by have := hg.size; rwa [World.size_alloc] at this); have HV1 : Hid ((W4.alloc (.cells #[.int .i64 (q : Int), .slice A2 m2 c2] 84)).ownsRow w.heap.size 84 2 v1 m (pc xs)) := hide (World.ownsRow.alloc (World.ownsRow.kept (World.ownsRow.alloc HO1.out _) hg (own_far (fun j hj => (World.ownsRow.lt HO1.out j hj).2))) _); clear how hg hat hm2)
  | (refine wpList_append_row rfl (.tmp 33) (.tmp 39) 30 rfl w.heap.size 0 84 i0 _ 2 32 Tryz.underlying30 hi0 hz0 hz1 hz2 rfl (by decide) (v := v1) rfl HV1.out rfl (row_lit W4 0 84 2 1 [.int .i64 (q : Int), .slice A2 m2 c2] rfl (by decide) (Nat.zero_le _)) (one_two _ _ _ _) (by have := HPL.out; have := HM.out; unfold maxLen; omega) (by have := HPL.out; have := HM.out; omega) (Nat.le_trans HB4.out.size (Nat.le_of_lt (by simp))) ?_; intro v3 W5 how hg hat; obtain ⟨A3, c3, rfl, _⟩ := Row.form (ownsRow_low how); have HO3 := hide how; have HG3 := hide hg; have HA3 := hide hat; have HV1B : Hid (∀ j, v1.ownBlock = some j → W2.heap.size ≤ j ∧ j < W3.heap.size) := hide (fun j hj => ⟨by rcases HA1.out with e | e <;> (rw [hj] at e; injection e with e; subst e; simp), (World.ownsRow.lt HO1.out j hj).2⟩); have HBK : Hid (∀ g t cs, g < W2.heap.size → Blk W2 g t cs → Blk W5 g t cs) := hide (fun g t cs hg2 hb => ((((((hb.alloc _).grown HG1.out (fun e => by injection e with e; simp at e; omega)).alloc _).grown HG2.out (fun e => by injection e with e; have := HS3.out; simp at e; omega)).alloc _).grown hg (fun e => by have := (HV1B.out g e.symm).1; omega))); have HY1 := hide (HBK.out _ _ _ hlt2 HX1.out); have HY2 := hide (HBK.out _ _ _ HX2.out.lt HX2.out); have HB5 : Hid (Below w.heap.size w W5) := hide ((HB4.out.alloc HB4.out.size _).grown hg (by rw [World.size_alloc]; exact Nat.le_succ_of_le HB4.out.size) (fun j e => by have := (HV1B.out j e).1; omega)); clear k0 k1 k2 k3 f0 f1 f2 f3; obtain ⟨k0, k1, k2, k3, f0, f1, f2, f3⟩ := blk4 HY1.out; obtain ⟨j0, j1, j2, j3, g0, g1, g2, g3⟩ := blk4 HY2.out; clear how hg hat))
 refine bodyPost_ret (results_row_tmp rfl _ _ (w.heap.size + 1) 32 #[.slice A n c, .slice A3 (m + 1) c3, .int .i64 z1, .bool false] (0, 0) _ (.int .i64 0) rfl rfl ?hr Tryz.underlying32 rfl size_disk) rfl ?hp
 case hr => exact (((((HY2.out.far (by simp) _).put 0 _).put 1 _).put 2 _).put 3 _)
 case hp =>
  clear k0 k1 k2 k3 f0 f1 f2 f3 j0 j1 j2 j3 g0 g1 g2 g3
  have T5 : Touch [w.heap.size, w.heap.size + 1] W5 _ := ((Touch.refl [w.heap.size, w.heap.size + 1] W5).set (g := w.heap.size) (.inl (by simp)) 1 (.slice A3 (m + 1) c3)).set (g := w.heap.size + 1) (.inl (by simp)) 0 (.slice A n c) |>.set (g := w.heap.size + 1) (.inl (by simp)) 1 (.slice A3 (m + 1) c3) |>.set (g := w.heap.size + 1) (.inl (by simp)) 2 (.int .i64 z1) |>.set (g := w.heap.size + 1) (.inl (by simp)) 3 (.bool false)
  generalize hWf : (World.setCell _ _ _) = Wf at T5 ⊢
  have hBf := Below.touch HB5.out T5 (by simp) HB5.out.size
  have hk' := HK.out.step hBf
  have hpp := HPP.out
  have hs2 : w.heap.size + 2 ≤ W2.heap.size := by rw [HS2.out]; exact HS1.out
  have hs3 := HS3.out
  have hs4 := HS4.out
  have hz5 : W4.heap.size + 1 ≤ W5.heap.size := by have := HG3.out.size; rwa [World.size_alloc] at this
  have hv3 : ∀ j, (Value.slice A3 (m + 1) c3).ownBlock = some j → w.heap.size + 2 ≤ j ∧ j < W5.heap.size := fun j hj => ⟨by
   rcases HA3.out with e | e
   ·rw [hj] at e; have := (HV1B.out j e.symm).1; omega
   ·rw [hj] at e; injection e with e; rw [World.size_alloc] at e; omega, (World.ownsRow.lt HO3.out j hj).2⟩
  have hv2 : ∀ j, (Value.slice A2 m2 c2).ownBlock = some j → W3.heap.size ≤ j ∧ j < W4.heap.size := fun j hj => ⟨by
   rcases HA2.out with e | e
   ·rw [hj] at e; injection e with e; simp at e; omega
   ·rw [hj] at e; injection e with e; rw [World.size_alloc] at e; omega, (HO2.out.lt j hj).2⟩
  have hb2 : Bs Wf (.slice A2 m2 c2) data := by
   refine ((HO2.out.bs.alloc _).grown HG3.out ?_).touch T5 (fun j hj => by have := hv2 j hj; simp; omega)
   cases hvb : (Value.slice A2 m2 c2).ownBlock with
   | none => exact .inl rfl
   | some j => right; intro e; have := (HV1B.out j e.symm).2; have := hv2 j hvb; omega
  have hsz := T5.size
  refine ⟨_, rfl, ⟨.slice A n c, .slice A3 (m + 1) c3, vs, xs ++ [(q, .slice A2 m2 c2)], ?_, ?_⟩, hBf⟩
  ·have e1 := HZ1.out
   have e2 := HBF.out
   simp [rv, e1, e2]
  ·refine ⟨?_, ?_, ?_, ?_, hk'.dA, ?_, HWO.out⟩
   ·show Row Wf _ 1 _ D1.pages.length vs
    rw [hpp.1]; exact hk'.dur
   ·show Row Wf _ 2 _ (D1.pend ++ [(q, data)]).length _
    have hl : (D1.pend ++ [(q, data)]).length = m + 1 := by rw [List.length_append, hpp.2, ← HM.out]; rfl
    rw [hl, pc_snoc]
    exact Row.touch (ownsRow_low HO3.out) T5 (fun j hj => by have := hv3 j hj; simp; omega)
   ·show Pgs Wf F vs D1.pages
    rw [hpp.1]; exact hk'.pgs
   ·show Pds Wf F _ (D1.pend ++ [(q, data)])
    rw [hpp.2]
    exact hk'.pds.snoc rfl hb2 (Apart.new HFF.out (fun j hj => by have := hv2 j hj; omega))
   ·exact Apart.new HFF.out (fun j hj => by have := hv3 j hj; omega)
end Go.Proofs.YtpadgkkeihhneaaGreat
