/- Steps on the blocks that a call has laid. -/
import Derived.Test.YtpbgelhjbfckcaaS02
import Derived.Test.YtpbgelhjbfckcaaS01
import Derived.Great.Walk
import Derived.Great.BuildSlice
namespace Go.Proofs.Ytpbgelhjbfckcaa
open Go.ChangeShapes Go.WideShapes Go.ChangeAt Go.RowKit
set_option linter.unusedVariables false

theorem storeVar_one {ty : TypeId} {a : Addr} {v : Value} (hv : v.oneCell' = true) : storeVar ty a v = storeVar ty a (.agg #[v]) := by
  cases v <;> first | rfl | (simp [Value.oneCell'] at hv)
/-- A value as the cells it is stored as. -/
def Fits (v : Value) (vs : List Value) : Prop := v = .agg vs.toArray ∨ (v.oneCell' = true ∧ vs = [v])
theorem fits_agg (vs : List Value) : Fits (.agg vs.toArray) vs := .inl rfl
theorem fits_one {v : Value} (h : v.oneCell' = true) : Fits v [v] := .inr ⟨h, rfl⟩
theorem run_store_own {P : Program} {w : World} {ty : TypeId} {g o : Nat} {t : TypeId} {old vs : List Value} {v : Value} (hv : Fits v vs) (hb : Blk w g t old.toArray) (hs : o + vs.length ≤ old.length)
    (hi : (P.info? ty).map (·.size) = some vs.length) (h1 : vs.all (·.oneCell') = true) : (Instr.storeAt ty (.pointer (some ⟨g, o, none⟩)) v).run P w = .ok () (w.setCells g o vs) := by
  have hth : w.there g o vs.toArray.size := fun j hj => by
    simp only [List.size_toArray] at hj
    rw [hb.cell (o + j), hb.froz (o + j)]
    exact ⟨by rw [List.getElem?_toArray, List.getElem?_eq_getElem (by omega)]; rfl, rfl⟩
  have h2 := run_storeAt_mid (P := P) w g o ty vs.toArray hth (by simpa using hi) (by simpa using h1)
  rcases hv with rfl | ⟨hv, rfl⟩
  · exact h2
  · simp only [Instr.storeAt, storeVar_one hv] at h2 ⊢
    exact h2
section
variable {P : Program} {w w0 : World} {S : List Nat} {L : List (Nat × TypeId × List Value)} {ops : Array Oper} {rest : List Oper} {op : Oper} {a : Act} {Q : Exit → Act → World → Prop}
theorem own_store (HO : Own w0 S L w) (i : Nat) {g o : Nat} {t : TypeId} {old vs new : List Value} (hL : L[i]? = some (g, t, old)) (hs : o + vs.length ≤ old.length) (hn : old.take o ++ vs ++ old.drop (o + vs.length) = new) : Own w0 S (L.set i (g, t, new)) (w.setCells g o vs) := by
  have h2 := Blk.setCells vs o w _ (HO.blk i hL) (by simpa using hs)
  subst hn
  exact HO.put i hL h2 (touch_setCells w g o _).1
theorem wpList_store_own (HO : Own w0 S L w) (hgd : op.guard = none) (ty : TypeId) (x y : Operand) (ho : op.op = .store ty x y) (i g o : Nat) (t : TypeId) (old vs new : List Value) (hL : L[i]? = some (g, t, old))
    (v : Value) (hx : a.eval x = .pointer (some ⟨g, o, none⟩)) (hy : a.eval y = v) (hv : Fits v vs) (hs : o + vs.length ≤ old.length) (hn : old.take o ++ vs ++ old.drop (o + vs.length) = new)
    (hi : (P.info? ty).map (·.size) = some vs.length) (h1 : vs.all (·.oneCell') = true)
    (h : ∀ w', Own w0 S (L.set i (g, t, new)) w' → wpList P ops Q rest (a.put op.dst undef) w') : wpList P ops Q (op :: rest) a w := wpList_plain hgd fun K hK => by
  unfold Oper.wp execOp
  simp only [ho, hx, hy, Sem.run_bind, run_store_own hv (HO.blk i hL) hs hi h1, Result.andThen_ok]
  exact hK _ _ (h _ (own_store HO i hL hs hn))
theorem step_store_own {K : Act → World → Prop} {E : Prop} (HO : Own w0 S L w) (hgd : op.guard = none) (ty : TypeId) (x y : Operand) (ho : op.op = .store ty x y) (i g o : Nat) (t : TypeId) (old vs new : List Value) (hL : L[i]? = some (g, t, old))
    (v : Value) (hx : a.eval x = .pointer (some ⟨g, o, none⟩)) (hy : a.eval y = v) (hv : Fits v vs) (hs : o + vs.length ≤ old.length) (hn : old.take o ++ vs ++ old.drop (o + vs.length) = new)
    (hi : (P.info? ty).map (·.size) = some vs.length) (h1 : vs.all (·.oneCell') = true)
    (h : ∀ w', Own w0 S (L.set i (g, t, new)) w' → K (a.put op.dst undef) w') : if Region.wanted op (yielded ops a.tmps) = true then Oper.wp P op a w K Q else E := by
  have hw : Region.wanted op (yielded ops a.tmps) = true := by simp [Region.wanted, hgd]
  rw [if_pos hw]
  unfold Oper.wp execOp
  simp only [ho, hx, hy, Sem.run_bind, run_store_own hv (HO.blk i hL) hs hi h1, Result.andThen_ok]
  exact h _ (own_store HO i hL hs hn)
theorem own_range (HO : Own w0 S L w) (i : Nat) {g o n : Nat} {t : TypeId} {cs vs : List Value} (hL : L[i]? = some (g, t, cs)) (hv : (cs.drop o).take n = vs) : w.rangeAt g o vs := fun j v hj => by
  subst hv
  rw [HO.cells i hL (o + j)]
  rw [List.getElem?_take] at hj
  split at hj
  · rwa [List.getElem?_drop] at hj
  · cases hj
theorem wpList_load_own (HO : Own w0 S L w) (hgd : op.guard = none) (ty : TypeId) (x : Operand) (ho : op.op = .load ty x) (i g o n : Nat) (t : TypeId) (cs vs : List Value) (d : TypeDesc) (hL : L[i]? = some (g, t, cs)) (hv : (cs.drop o).take n = vs)
    (hx : a.eval x = .pointer (some ⟨g, o, none⟩)) (hu : P.underlying ty = some d) (hd : d.isRow = true) (hi : (P.info? ty).map (·.size) = some vs.length)
    (h : wpList P ops Q rest (a.put op.dst (.agg vs.toArray)) w) : wpList P ops Q (op :: rest) a w :=
  wpList_load_mid hgd ty x ho g o hx vs d (own_range HO i hL hv) hu hd hi h
theorem wpList_alloc_own (HO : Own w0 S L w) (hgd : op.guard = none) (t : TypeId) (ho : op.op = .alloc t) (cs : List Value) (hi : (P.info? t).map (·.zero) = some (some (.agg cs.toArray)))
    (h : ∀ w' b, Own w0 S (L ++ [(b, t, cs)]) w' → wpList P ops Q rest (a.put op.dst (.pointer (some ⟨b, 0, none⟩))) w') : wpList P ops Q (op :: rest) a w :=
  wpList_alloc_blk hgd t ho cs.toArray hi fun w' h1 h2 _ => h w' _ (HO.push h1 h2)
theorem wpList_box_own (HO : Own w0 S L w) (hgd : op.guard = none) (t : TypeId) (x : Operand) (ho : op.op = .box t x) (cs : List Value) (hx : a.eval x = .agg cs.toArray)
    (h : ∀ w' b, Own w0 S (L ++ [(b, t, cs)]) w' → wpList P ops Q rest (a.put op.dst (.pointer (some ⟨b, 0, none⟩))) w') : wpList P ops Q (op :: rest) a w :=
  wpList_box_blk hgd t x ho cs.toArray hx fun w' h1 h2 _ => h w' _ (HO.push h1 h2)
/-- A slice literal of one struct. -/
theorem wpList_slice_own (HO : Own w0 S L w) (hgd : op.guard = none) (t e : TypeId) (len : Nat) (parts : Array (Nat × Operand)) (ho : op.op = .buildSlice t len parts) (hu : P.underlying t = some (.slice e)) (cs : List Value)
    (hf : P.builtSlice e len (parts.map fun (i, x) => (i, a.eval x)).toList = some cs.toArray)
    (h : ∀ w' b, Own w0 S (L ++ [(b, e, cs)]) w' → wpList P ops Q rest (a.put op.dst (.slice (some ⟨b, 0, none⟩) len len)) w') : wpList P ops Q (op :: rest) a w :=
  Go.Great.wpList_buildSliceTo hgd t e len parts ho w.heap.size rfl op.dst rfl hu cs.toArray hf (h _ _ (HO.push (Blk.new w e cs.toArray) ((Below.refl _ _).alloc (Nat.le_refl _) _)))
theorem splice_all {old vs : List Value} (h : old.length = vs.length) : old.take 0 ++ vs ++ old.drop (0 + vs.length) = vs := by
  rw [List.take_zero, List.nil_append, List.drop_eq_nil_of_le (by omega), List.append_nil]
theorem take_all {cs : List Value} {n : Nat} (h : cs.length = n) : (cs.drop 0).take n = cs := by rw [List.drop_zero, List.take_of_length_le (by omega)]
theorem results_row_row {P : Program} {fn : Func} {p q : Tmp} {ty tz : TypeId} (h : fn.results = #[.cell p ty, .cell q tz]) (tmps : Array Value) (HO : Own w0 S L w) (i j g b : Nat) (t u : TypeId) (cs vs : List Value) (d e : TypeDesc)
    (hi : L[i]? = some (g, t, cs)) (hj : L[j]? = some (b, u, vs)) (hp : tmps.getD p undef = .pointer (some ⟨g, 0, none⟩)) (hq : tmps.getD q undef = .pointer (some ⟨b, 0, none⟩))
    (hu : P.underlying ty = some d) (hd : d.isRow = true) (hs : (P.info? ty).map (·.size) = some cs.length) (hu2 : P.underlying tz = some e) (hd2 : e.isRow = true) (hs2 : (P.info? tz).map (·.size) = some vs.length) :
    (results fn tmps).run P w = .ok (.tuple #[.agg cs.toArray, .agg vs.toArray]) w := by
  have hp' : tmps[p]?.getD undef = .pointer (some ⟨g, 0, none⟩) := by simpa using hp
  have hq' : tmps[q]?.getD undef = .pointer (some ⟨b, 0, none⟩) := by simpa using hq
  have r1 := run_loadVar_mid (P := P) w g 0 ty cs d (own_range HO i hi (take_all rfl)) hu hd hs
  have r2 := run_loadVar_mid (P := P) w b 0 tz vs e (own_range HO j hj (take_all rfl)) hu2 hd2 hs2
  simp [results, h, hp', hq', asAddr, r1, r2]
theorem results_row_row_tmp {P : Program} {fn : Func} {p q r : Tmp} {ty tz : TypeId} (h : fn.results = #[.cell p ty, .cell q tz, .tmp r]) (tmps : Array Value) (HO : Own w0 S L w) (i j g b : Nat) (t u : TypeId) (cs vs : List Value) (d e : TypeDesc) (v : Value)
    (hi : L[i]? = some (g, t, cs)) (hj : L[j]? = some (b, u, vs)) (hp : tmps.getD p undef = .pointer (some ⟨g, 0, none⟩)) (hq : tmps.getD q undef = .pointer (some ⟨b, 0, none⟩)) (hr : tmps.getD r undef = v)
    (hu : P.underlying ty = some d) (hd : d.isRow = true) (hs : (P.info? ty).map (·.size) = some cs.length) (hu2 : P.underlying tz = some e) (hd2 : e.isRow = true) (hs2 : (P.info? tz).map (·.size) = some vs.length) :
    (results fn tmps).run P w = .ok (.tuple #[.agg cs.toArray, .agg vs.toArray, v]) w := by
  have hp' : tmps[p]?.getD undef = .pointer (some ⟨g, 0, none⟩) := by simpa using hp
  have hq' : tmps[q]?.getD undef = .pointer (some ⟨b, 0, none⟩) := by simpa using hq
  have hr' : tmps[r]?.getD undef = v := by simpa using hr
  have r1 := run_loadVar_mid (P := P) w g 0 ty cs d (own_range HO i hi (take_all rfl)) hu hd hs
  have r2 := run_loadVar_mid (P := P) w b 0 tz vs e (own_range HO j hj (take_all rfl)) hu2 hd2 hs2
  simp [results, h, hp', hq', hr', asAddr, r1, r2]
theorem results_row_tmp_tmp {P : Program} {fn : Func} {p q r : Tmp} {ty : TypeId} (h : fn.results = #[.cell p ty, .tmp q, .tmp r]) (tmps : Array Value) (HO : Own w0 S L w) (i g : Nat) (t : TypeId) (cs : List Value) (d : TypeDesc) (u v : Value)
    (hi : L[i]? = some (g, t, cs)) (hp : tmps.getD p undef = .pointer (some ⟨g, 0, none⟩)) (hq : tmps.getD q undef = u) (hr : tmps.getD r undef = v)
    (hu : P.underlying ty = some d) (hd : d.isRow = true) (hs : (P.info? ty).map (·.size) = some cs.length) :
    (results fn tmps).run P w = .ok (.tuple #[.agg cs.toArray, u, v]) w := by
  have hp' : tmps[p]?.getD undef = .pointer (some ⟨g, 0, none⟩) := by simpa using hp
  have hq' : tmps[q]?.getD undef = u := by simpa using hq
  have hr' : tmps[r]?.getD undef = v := by simpa using hr
  have r1 := run_loadVar_mid (P := P) w g 0 ty cs d (own_range HO i hi (take_all rfl)) hu hd hs
  simp [results, h, hp', hq', hr', asAddr, r1]
theorem results_row {P : Program} {fn : Func} {p : Tmp} {ty : TypeId} (h : fn.results = #[.cell p ty]) (tmps : Array Value) (HO : Own w0 S L w) (i g : Nat) (t : TypeId) (cs : List Value) (d : TypeDesc)
    (hi : L[i]? = some (g, t, cs)) (hp : tmps.getD p undef = .pointer (some ⟨g, 0, none⟩))
    (hu : P.underlying ty = some d) (hd : d.isRow = true) (hs : (P.info? ty).map (·.size) = some cs.length) :
    (results fn tmps).run P w = .ok (.agg cs.toArray) w := by
  have hp' : tmps[p]?.getD undef = .pointer (some ⟨g, 0, none⟩) := by simpa using hp
  have r1 := run_loadVar_mid (P := P) w g 0 ty cs d (own_range HO i hi (take_all rfl)) hu hd hs
  simp [results, h, hp', asAddr, r1]
theorem yieldsIf_build {SS : World → Prop} (hw : Region.wanted op (yielded ops a.tmps) = true) (t : TypeId) (parts : Array (Nat × Operand)) (ho : op.op = .build t parts)
    (vs : List (Nat × Value)) (he : (parts.map fun (i, x) => (i, a.eval x)).toList = vs) (cells : Array Value) (hc : P.built t vs = some cells) : YieldsIf P ops SS op (.agg cells) a :=
  .inl ⟨hw, fun w _ => by
    unfold execOp
    subst he
    simp only [ho, Sem.run_bind, run_build w t _ cells hc, Result.andThen_ok, Sem.run_pure]⟩
theorem yieldsIf_load {SS : World → Prop} (hw : Region.wanted op (yielded ops a.tmps) = true) (ty : TypeId) (x : Operand) (ho : op.op = .load ty x) (g o n : Nat) (t : TypeId) (cs vs : List Value) (d : TypeDesc)
    (hS : ∀ w, SS w → ∀ j, w.cell? ⟨g, j, none⟩ = cs[j]?) (hv : (cs.drop o).take n = vs) (hx : a.eval x = .pointer (some ⟨g, o, none⟩)) (hu : P.underlying ty = some d) (hd : d.isRow = true) (hi : (P.info? ty).map (·.size) = some vs.length) : YieldsIf P ops SS op (.agg vs.toArray) a :=
  yieldsIf_load_mid hw ty x ho g o hx vs d (fun w hw j v hj => by
    subst hv
    rw [hS w hw (o + j)]
    rw [List.getElem?_take] at hj
    split at hj
    · rwa [List.getElem?_drop] at hj
    · cases hj) hu hd hi
end
end Go.Proofs.Ytpbgelhjbfckcaa
/- The reference: New, begin. -/
namespace Go.Proofs.Ytpbgelhjbfckcaa
open Go.ChangeShapes Go.WideShapes Go.ChangeAt Go.RowKit
set_option linter.unusedVariables false
set_option linter.unusedSimpArgs false

/-- The cells of the reference's client. -/
abbrev rcl (i m T n : Int) (o : Bool) (cs : List Value) : List Value := .int .i64 i :: .int .i64 m :: .int .i64 T :: .int .i64 n :: .bool o :: cs
/-- Those of a client's state. -/
def rC (S : CS) : List Value := rcl S.id S.machines S.target S.number S.opened.isSome (openOf S).1
@[irreducible] def zrc : List Value := rcl 0 0 0 0 false zmsg
theorem zrc_def : zrc = rcl 0 0 0 0 false zmsg := by unfold zrc; rfl
theorem zrc_len : zrc.length = 52 := by rw [zrc_def]; rfl
theorem info_rc : (Try.prog.info? 46).map (fun i => (i.zero, i.size)) = some (some (.agg (rcl 0 0 0 0 false zmsg).toArray), 52) := by kernel_rfl
theorem zrc_info : (Try.prog.info? 46).map (·.zero) = some (some (.agg zrc.toArray)) := by
  have h := congrArg (Option.map Prod.fst) info_rc
  rw [Option.map_map] at h
  rw [zrc_def]
  exact h
theorem rc_size {cs : List Value} (h : cs.length = 52) : (Try.prog.info? 46).map (·.size) = some cs.length := by rw [h]; kernel_rfl
theorem out_size {cs : List Value} (h : cs.length = 48) : (Try.prog.info? 59).map (·.size) = some cs.length := by rw [h]; kernel_rfl
theorem msg_size {cs : List Value} (h : cs.length = 47) : (Try.prog.info? 41).map (·.size) = some cs.length := by rw [h]; kernel_rfl
theorem int_size {v : Value} : (Try.prog.info? 3).map (·.size) = some [v].length := by kernel_rfl
theorem bool_size {v : Value} : (Try.prog.info? 4).map (·.size) = some [v].length := by kernel_rfl
theorem rcl_len {i m T n : Int} {o : Bool} {cs : List Value} (h : cs.length = 47) : (rcl i m T n o cs).length = 52 := by simp [h]
theorem rcl_ones {i m T n : Int} {o : Bool} {cs : List Value} (h : cs.all (·.oneCell') = true) : (rcl i m T n o cs).all (·.oneCell') = true := by simpa [Value.oneCell'] using h
theorem out_ones {T : Int} {cs : List Value} (h : cs.all (·.oneCell') = true) : (Value.int .i64 T :: cs).all (·.oneCell') = true := by simpa [Value.oneCell'] using h
theorem zout_ones : zout.all (·.oneCell') = true := by have := zout_one; simpa using this
theorem built_rnew (a b : Int) : Try.prog.built 46 [(0, .int .i64 a), (1, .int .i64 b), (2, .int .i64 1)] = some (rcl a b 1 0 false zmsg).toArray := by kernel_rfl
/-- Handed back, and nothing that was there has turned. -/
def Hands (w : World) (v : Value) (e : Ending) (w' : World) : Prop := e = .returned v ∧ Below w.heap.size w w'

set_option maxRecDepth 100000 in
set_option maxHeartbeats 1000000 in
theorem rnew_c (a b : Int) (w : World) : Calls Try.prog 19 #[.int .i64 a, .int .i64 b] w (Hands w (.agg (rcl a b 1 0 false zmsg).toArray)) := by
  have HO := hide (Own.nil w [] (by simp))
  have HL : Hid ((rcl a b 1 0 false zmsg).length = 52) := hide rfl
  have HON : Hid ((rcl a b 1 0 false zmsg).all (·.oneCell') = true) := hide (by simp [zmsg, Value.oneCell'])
  have HBU := hide (built_rnew a b)
  generalize rcl a b 1 0 false zmsg = R at *
  go_enter Try.func19, Try.ntmps19
  go_wp2_with (first
    | (refine wpList_alloc_own HO.out rfl 46 rfl (zrc) zrc_info ?_; intro WA b0 hO; replace HO := hide hO; clear hO)
    | (refine wpList_build rfl 46 _ rfl ([(0, .int .i64 a), (1, .int .i64 b), (2, .int .i64 1)]) (by first | (simp [Act.eval]; done) | (simp [Act.eval]; rfl)) (R).toArray HBU.out ?_)
    | (refine wpList_store_own HO.out rfl 46 (.tmp 4) (.tmp 7) rfl 0 _ 0 _ _ (R) (R) rfl (.agg (R).toArray) rfl rfl (fits_agg _) (by rw [HL.out, zrc_len]; exact Nat.le_refl _) (splice_all (by rw [HL.out, zrc_len])) (rc_size HL.out) HON.out ?_; intro WA hO; replace HO := hide hO; clear hO))
  refine bodyPost_ret (results_row rfl _ HO.out 0 _ _ _ _ rfl rfl Try.underlying46 rfl (rc_size HL.out)) rfl ?_
  exact ⟨rfl, HO.out.below⟩

theorem splice5 {a0 a1 a2 a3 a4 : Value} {cs vs : List Value} (h : cs.length = vs.length) : (a0 :: a1 :: a2 :: a3 :: a4 :: cs).take 5 ++ vs ++ (a0 :: a1 :: a2 :: a3 :: a4 :: cs).drop (5 + vs.length) = a0 :: a1 :: a2 :: a3 :: a4 :: vs := by
  rw [List.drop_eq_nil_of_le (by simp <;> omega)]
  simp
set_option maxRecDepth 100000 in
set_option maxHeartbeats 1000000 in
theorem rbegin_c (i m T n : Int) (o : Bool) (cs rs : List Value) (va vb vc vd : Value) (h0 : 0 ≤ n) (h1 : n < 1000000) (hcs : cs.length = 47) (hrs : rs.length = 43) (h1c : cs.all (·.oneCell') = true) (h1m : (va :: vb :: vc :: vd :: rs).all (·.oneCell') = true) (w : World) :
    Calls Try.prog 50 #[.agg (rcl i m T n o cs).toArray, .agg (va :: vb :: vc :: vd :: rs).toArray] w (Hands w (.tuple #[.agg (rcl i m T (n + 1) true (va :: vb :: .int .i64 i :: .int .i64 (n + 1) :: rs)).toArray, .agg (.int .i64 T :: va :: vb :: .int .i64 i :: .int .i64 (n + 1) :: rs).toArray])) := by
  have HO := hide (Own.nil w [] (by simp))
  have HM2 : Hid ((va :: vb :: .int .i64 i :: .int .i64 (n + 1) :: rs).all (·.oneCell') = true) := hide (by
    simp only [List.all_cons, Bool.and_eq_true] at h1m ⊢
    exact ⟨h1m.1, h1m.2.1, rfl, rfl, h1m.2.2.2.2⟩)
  go_enter Try.func50, Try.ntmps50
  go_wp2_with (first
    | (refine wpList_box_own HO.out rfl 46 (.tmp 0) rfl (rcl i m T n o cs) rfl ?_; intro WA b0 hO; replace HO := hide hO; clear hO)
    | (refine wpList_box_own HO.out rfl 41 (.tmp 1) rfl (va :: vb :: vc :: vd :: rs) rfl ?_; intro WA b1 hO; replace HO := hide hO; clear hO)
    | (refine wpList_alloc_own HO.out rfl 46 rfl (zrc) zrc_info ?_; intro WA b2 hO; replace HO := hide hO; clear hO)
    | (refine wpList_alloc_own HO.out rfl 59 rfl zout zout_info ?_; intro WA b3 hO; replace HO := hide hO; have k0 := hO.cells 0 rfl; clear hO)
    | (refine wpList_store_own HO.out rfl 3 (.tmp 9) (.tmp 8) rfl 0 _ 3 _ _ ([.int .i64 (n + 1)]) (rcl i m T (n + 1) o cs) rfl (.int .i64 (n + 1)) rfl rfl (fits_one rfl) (by simp <;> omega) rfl int_size rfl ?_; intro WA hO; replace HO := hide hO; clear hO))
  clear k0
  refine wp_region_held_drew (S := fun W => (∀ j, W.cell? ⟨b0, j, none⟩ = (rcl i m T (n + 1) o cs : List Value)[j]?)) (by kernel_rfl) (HO.out.drew.cells 0 rfl) (fun hS0 => ?_)
  replace HO := hide HO.out.drew
  refine wpAnyH_take (i := 0) (v := ?vx0) rfl (by kernel_rfl) (by kernel_rfl) (by kernel_rfl) (fun _ _ _ h => h) (Or.inl ⟨by rfl, ?hyx0⟩) (by assumption) ?restx0
  case hyx0 => (intro w hSw; (try dsimp only at hSw); go_simp; first | done | (with_reducible rfl))
  try simp only [Act.put, List.getElem_toArray, List.getElem_cons_zero, List.getElem_cons_succ, List.setIfInBounds_toArray, List.set_cons_zero, List.set_cons_succ]
  refine wpAnyH_take (i := 1) (v := ?vx1) rfl (by kernel_rfl) (by kernel_rfl) (by kernel_rfl) (fun _ _ _ h => h) (Or.inl ⟨by rfl, ?hyx1⟩) (by assumption) ?restx1
  case hyx1 => (intro w hSw; (try dsimp only at hSw); go_simp; first | done | (with_reducible rfl))
  try simp only [Act.put, List.getElem_toArray, List.getElem_cons_zero, List.getElem_cons_succ, List.setIfInBounds_toArray, List.set_cons_zero, List.set_cons_succ]
  refine wpAnyH_take (i := 2) (v := ?vx2) rfl (by kernel_rfl) (by kernel_rfl) (by kernel_rfl) (fun _ _ _ h => h) (Or.inl ⟨by rfl, ?hyx2⟩) (by assumption) ?restx2
  case hyx2 => (intro w hSw; (try dsimp only at hSw); go_simp; first | done | (with_reducible rfl))
  try simp only [Act.put, List.getElem_toArray, List.getElem_cons_zero, List.getElem_cons_succ, List.setIfInBounds_toArray, List.set_cons_zero, List.set_cons_succ]
  refine wpAnyH_take (i := 3) (v := ?vx3) rfl (by kernel_rfl) (by kernel_rfl) (by kernel_rfl) (fun _ _ _ h => h) (Or.inl ⟨by rfl, ?hyx3⟩) (by assumption) ?restx3
  case hyx3 => (intro w hSw; (try dsimp only at hSw); go_simp; first | done | (with_reducible rfl))
  try simp only [Act.put, List.getElem_toArray, List.getElem_cons_zero, List.getElem_cons_succ, List.setIfInBounds_toArray, List.set_cons_zero, List.set_cons_succ]
  refine wpAnyH_take (i := 4) (v := ?vx4) rfl (by kernel_rfl) (by kernel_rfl) (by kernel_rfl) (fun _ _ _ h => h) (Or.inl ⟨by rfl, ?hyx4⟩) (by assumption) ?restx4
  case hyx4 => (intro w hSw; (try dsimp only at hSw); go_simp; first | done | (with_reducible rfl))
  try simp only [Act.put, List.getElem_toArray, List.getElem_cons_zero, List.getElem_cons_succ, List.setIfInBounds_toArray, List.set_cons_zero, List.set_cons_succ]
  refine wpAnyH_ready (rs := [5]) (by kernel_rfl) (by simp) ?_
  refine AllReadyH.cons rfl (fun K hK => ?_) AllReadyH.nil
  refine step_store_own HO.out rfl 3 (.tmp 14) (.tmp 11) rfl 1 _ 2 _ _ ([.int .i64 i]) (va :: vb :: .int .i64 i :: vd :: rs) rfl (.int .i64 i) rfl rfl (fits_one rfl) (by simp <;> omega) rfl int_size rfl ?_
  intro WA hO
  replace HO := hide hO
  clear hO
  refine hK.out _ _ (HO.out.cells 0 rfl) (fun hS5 => ?_)
  clear hK K
  try simp only [Act.put, List.getElem_toArray, List.getElem_cons_zero, List.getElem_cons_succ, List.setIfInBounds_toArray, List.set_cons_zero, List.set_cons_succ]
  refine wpAnyH_take (i := 6) (v := ?vx6) rfl (by kernel_rfl) (by kernel_rfl) (by kernel_rfl) (fun _ _ _ h => h) (Or.inl ⟨by rfl, ?hyx6⟩) (by assumption) ?restx6
  case hyx6 => (intro w hSw; (try dsimp only at hSw); go_simp; first | done | (with_reducible rfl))
  try simp only [Act.put, List.getElem_toArray, List.getElem_cons_zero, List.getElem_cons_succ, List.setIfInBounds_toArray, List.set_cons_zero, List.set_cons_succ]
  refine wpAnyH_ready (rs := [7]) (by kernel_rfl) (by simp) ?_
  refine AllReadyH.cons rfl (fun K hK => ?_) AllReadyH.nil
  refine step_store_own HO.out rfl 3 (.tmp 15) (.tmp 13) rfl 1 _ 3 _ _ ([.int .i64 (n + 1)]) (va :: vb :: .int .i64 i :: .int .i64 (n + 1) :: rs) rfl (.int .i64 (n + 1)) rfl rfl (fits_one rfl) (by simp <;> omega) rfl int_size rfl ?_
  intro WA hO
  replace HO := hide hO
  clear hO
  refine hK.out _ _ (HO.out.cells 0 rfl) (fun hS7 => ?_)
  clear hK K
  try simp only [Act.put, List.getElem_toArray, List.getElem_cons_zero, List.getElem_cons_succ, List.setIfInBounds_toArray, List.set_cons_zero, List.set_cons_succ]
  refine wpAnyH_done (by kernel_rfl) ?_ _
  clear hS0
  go_wp2_with fail
  refine wp_region_held_drew (S := fun W => (∀ j, W.cell? ⟨b1, j, none⟩ = (va :: vb :: .int .i64 i :: .int .i64 (n + 1) :: rs : List Value)[j]?)) (by kernel_rfl) (HO.out.drew.cells 1 rfl) (fun hS0 => ?_)
  replace HO := hide HO.out.drew
  refine wpAnyH_take (i := 0) (v := .agg (va :: vb :: .int .i64 i :: .int .i64 (n + 1) :: rs).toArray) rfl (by kernel_rfl) (by kernel_rfl) (by kernel_rfl) (fun _ _ _ h => h) (yieldsIf_load rfl 41 (.tmp 3) rfl b1 0 47 41 (va :: vb :: .int .i64 i :: .int .i64 (n + 1) :: rs) (va :: vb :: .int .i64 i :: .int .i64 (n + 1) :: rs) _ (fun w hw => hw) (take_all (by simp <;> omega)) rfl Try.underlying41 rfl (msg_size (by simp <;> omega))) (by assumption) ?_
  try simp only [Act.put, List.getElem_toArray, List.getElem_cons_zero, List.getElem_cons_succ, List.setIfInBounds_toArray, List.set_cons_zero, List.set_cons_succ]
  refine wpAnyH_take (i := 1) (v := ?vy1) rfl (by kernel_rfl) (by kernel_rfl) (by kernel_rfl) (fun _ _ _ h => h) (Or.inl ⟨by rfl, ?hyy1⟩) (by assumption) ?resty1
  case hyy1 => (intro w hSw; (try dsimp only at hSw); go_simp; first | done | (with_reducible rfl))
  try simp only [Act.put, List.getElem_toArray, List.getElem_cons_zero, List.getElem_cons_succ, List.setIfInBounds_toArray, List.set_cons_zero, List.set_cons_succ]
  refine wpAnyH_ready (rs := [2]) (by kernel_rfl) (by simp) ?_
  refine AllReadyH.cons rfl (fun K hK => ?_) AllReadyH.nil
  refine step_store_own HO.out rfl 4 (.tmp 17) _ rfl 0 _ 4 _ _ ([.bool true]) (rcl i m T (n + 1) true cs) rfl (.bool true) rfl rfl (fits_one rfl) (by simp <;> omega) rfl bool_size rfl ?_
  intro WA hO
  replace HO := hide hO
  clear hO
  refine hK.out _ _ (HO.out.cells 1 rfl) (fun hS2 => ?_)
  clear hK K
  try simp only [Act.put, List.getElem_toArray, List.getElem_cons_zero, List.getElem_cons_succ, List.setIfInBounds_toArray, List.set_cons_zero, List.set_cons_succ]
  refine wpAnyH_take (i := 3) (v := ?vy3) rfl (by kernel_rfl) (by kernel_rfl) (by kernel_rfl) (fun _ _ _ h => h) (Or.inl ⟨by rfl, ?hyy3⟩) (by assumption) ?resty3
  case hyy3 => (intro w hSw; (try dsimp only at hSw); go_simp; first | done | (with_reducible rfl))
  try simp only [Act.put, List.getElem_toArray, List.getElem_cons_zero, List.getElem_cons_succ, List.setIfInBounds_toArray, List.set_cons_zero, List.set_cons_succ]
  refine wpAnyH_ready (rs := [4]) (by kernel_rfl) (by simp) ?_
  refine AllReadyH.cons rfl (fun K hK => ?_) AllReadyH.nil
  refine step_store_own HO.out rfl 41 (.tmp 18) (.tmp 16) rfl 0 _ 5 _ _ (va :: vb :: .int .i64 i :: .int .i64 (n + 1) :: rs) (rcl i m T (n + 1) true (va :: vb :: .int .i64 i :: .int .i64 (n + 1) :: rs)) rfl (.agg (va :: vb :: .int .i64 i :: .int .i64 (n + 1) :: rs).toArray) rfl rfl (fits_agg _) (by simp <;> omega) (splice5 (by simp <;> omega)) (msg_size (by simp <;> omega)) HM2.out ?_
  intro WA hO
  replace HO := hide hO
  clear hO
  refine hK.out _ _ (HO.out.cells 1 rfl) (fun hS4 => ?_)
  clear hK K
  try simp only [Act.put, List.getElem_toArray, List.getElem_cons_zero, List.getElem_cons_succ, List.setIfInBounds_toArray, List.set_cons_zero, List.set_cons_succ]
  refine wpAnyH_done (by kernel_rfl) ?_ _
  clear hS0
  go_wp2_with fail
  refine wp_region_held_drew (S := fun W => (∀ j, W.cell? ⟨b0, j, none⟩ = (rcl i m T (n + 1) true (va :: vb :: .int .i64 i :: .int .i64 (n + 1) :: rs) : List Value)[j]?) ∧ (∀ j, W.cell? ⟨b1, j, none⟩ = (va :: vb :: .int .i64 i :: .int .i64 (n + 1) :: rs : List Value)[j]?)) (by kernel_rfl) (⟨HO.out.drew.cells 0 rfl, HO.out.drew.cells 1 rfl⟩) (fun hS0 => ?_)
  replace HO := hide HO.out.drew
  refine wpAnyH_take (i := 0) (v := .agg (rcl i m T (n + 1) true (va :: vb :: .int .i64 i :: .int .i64 (n + 1) :: rs)).toArray) rfl (by kernel_rfl) (by kernel_rfl) (by kernel_rfl) (fun _ _ _ h => h) (yieldsIf_load rfl 46 (.tmp 2) rfl b0 0 52 46 (rcl i m T (n + 1) true (va :: vb :: .int .i64 i :: .int .i64 (n + 1) :: rs)) (rcl i m T (n + 1) true (va :: vb :: .int .i64 i :: .int .i64 (n + 1) :: rs)) _ (fun w hw => hw.1) (take_all (rcl_len (by simp <;> omega))) rfl Try.underlying46 rfl (rc_size (rcl_len (by simp <;> omega)))) (by assumption) ?_
  try simp only [Act.put, List.getElem_toArray, List.getElem_cons_zero, List.getElem_cons_succ, List.setIfInBounds_toArray, List.set_cons_zero, List.set_cons_succ]
  refine wpAnyH_take (i := 1) (v := ?vz1) rfl (by kernel_rfl) (by kernel_rfl) (by kernel_rfl) (fun _ _ _ h => h) (Or.inl ⟨by rfl, ?hyz1⟩) (by assumption) ?restz1
  case hyz1 => (intro w hSw; (try dsimp only at hSw); go_simp; first | done | (with_reducible rfl))
  try simp only [Act.put, List.getElem_toArray, List.getElem_cons_zero, List.getElem_cons_succ, List.setIfInBounds_toArray, List.set_cons_zero, List.set_cons_succ]
  refine wpAnyH_take (i := 2) (v := ?vz2) rfl (by kernel_rfl) (by kernel_rfl) (by kernel_rfl) (fun _ _ _ h => h) (Or.inl ⟨by rfl, ?hyz2⟩) (by assumption) ?restz2
  case hyz2 => (intro w hSw; (try dsimp only at hSw); go_simp; first | done | (with_reducible rfl))
  try simp only [Act.put, List.getElem_toArray, List.getElem_cons_zero, List.getElem_cons_succ, List.setIfInBounds_toArray, List.set_cons_zero, List.set_cons_succ]
  refine wpAnyH_take (i := 3) (v := .agg (va :: vb :: .int .i64 i :: .int .i64 (n + 1) :: rs).toArray) rfl (by kernel_rfl) (by kernel_rfl) (by kernel_rfl) (fun _ _ _ h => h) (yieldsIf_load rfl 41 (.tmp 3) rfl b1 0 47 41 (va :: vb :: .int .i64 i :: .int .i64 (n + 1) :: rs) (va :: vb :: .int .i64 i :: .int .i64 (n + 1) :: rs) _ (fun w hw => hw.2) (take_all (by simp <;> omega)) rfl Try.underlying41 rfl (msg_size (by simp <;> omega))) (by assumption) ?_
  try simp only [Act.put, List.getElem_toArray, List.getElem_cons_zero, List.getElem_cons_succ, List.setIfInBounds_toArray, List.set_cons_zero, List.set_cons_succ]
  refine wpAnyH_take (i := 4) (v := .agg (.int .i64 T :: va :: vb :: .int .i64 i :: .int .i64 (n + 1) :: rs).toArray) rfl (by kernel_rfl) (by kernel_rfl) (by kernel_rfl) (fun _ _ _ h => h) (yieldsIf_build rfl 59 _ rfl ([(0, .int .i64 T), (1, .agg (va :: vb :: .int .i64 i :: .int .i64 (n + 1) :: rs).toArray)]) (by first | (simp [Act.eval]; done) | (simp [Act.eval]; rfl)) (.int .i64 T :: va :: vb :: .int .i64 i :: .int .i64 (n + 1) :: rs).toArray (built_out T (va :: vb :: .int .i64 i :: .int .i64 (n + 1) :: rs) (by simp <;> omega))) (by assumption) ?_
  try simp only [Act.put, List.getElem_toArray, List.getElem_cons_zero, List.getElem_cons_succ, List.setIfInBounds_toArray, List.set_cons_zero, List.set_cons_succ]
  refine wpAnyH_ready (rs := [5]) (by kernel_rfl) (by simp) ?_
  refine AllReadyH.cons rfl (fun K hK => ?_) AllReadyH.nil
  refine step_store_own HO.out rfl 46 (.tmp 4) (.tmp 19) rfl 2 _ 0 _ _ (rcl i m T (n + 1) true (va :: vb :: .int .i64 i :: .int .i64 (n + 1) :: rs)) (rcl i m T (n + 1) true (va :: vb :: .int .i64 i :: .int .i64 (n + 1) :: rs)) rfl (.agg (rcl i m T (n + 1) true (va :: vb :: .int .i64 i :: .int .i64 (n + 1) :: rs)).toArray) rfl rfl (fits_agg _) (by rw [rcl_len (by simp <;> omega), zrc_len]; exact Nat.le_refl _) (splice_all (by rw [rcl_len (by simp <;> omega), zrc_len])) (rc_size (rcl_len (by simp <;> omega))) (rcl_ones HM2.out) ?_
  intro WA hO
  replace HO := hide hO
  clear hO
  refine hK.out _ _ (⟨HO.out.cells 0 rfl, HO.out.cells 1 rfl⟩) (fun hS5 => ?_)
  clear hK K
  try simp only [Act.put, List.getElem_toArray, List.getElem_cons_zero, List.getElem_cons_succ, List.setIfInBounds_toArray, List.set_cons_zero, List.set_cons_succ]
  refine wpAnyH_ready (rs := [6]) (by kernel_rfl) (by simp) ?_
  refine AllReadyH.cons rfl (fun K hK => ?_) AllReadyH.nil
  refine step_store_own HO.out rfl 59 (.tmp 5) (.tmp 23) rfl 3 _ 0 _ _ (.int .i64 T :: va :: vb :: .int .i64 i :: .int .i64 (n + 1) :: rs) (.int .i64 T :: va :: vb :: .int .i64 i :: .int .i64 (n + 1) :: rs) rfl (.agg (.int .i64 T :: va :: vb :: .int .i64 i :: .int .i64 (n + 1) :: rs).toArray) rfl rfl (fits_agg _) (by rw [zout_len]; simp <;> omega) (splice_all (by rw [zout_len]; simp <;> omega)) (out_size (by simp <;> omega)) (out_ones HM2.out) ?_
  intro WA hO
  replace HO := hide hO
  clear hO
  refine hK.out _ _ (⟨HO.out.cells 0 rfl, HO.out.cells 1 rfl⟩) (fun hS6 => ?_)
  clear hK K
  try simp only [Act.put, List.getElem_toArray, List.getElem_cons_zero, List.getElem_cons_succ, List.setIfInBounds_toArray, List.set_cons_zero, List.set_cons_succ]
  refine wpAnyH_done (by kernel_rfl) ?_ _
  clear hS0
  go_wp2_with fail
  refine bodyPost_ret (results_row_row rfl _ HO.out 2 3 _ _ _ _ _ _ _ _ rfl rfl rfl rfl Try.underlying46 rfl (rc_size (rcl_len (by simp <;> omega))) Try.underlying59 rfl (out_size (by simp <;> omega))) rfl ?_
  exact ⟨rfl, HO.out.below⟩
end Go.Proofs.Ytpbgelhjbfckcaa
/- A look at the operation that is next: it fits or not, at once. -/
namespace Go.Proofs.Ytpbgelhjbfckcaa
open Go.RowKit
theorem at_load (ty : TypeId) (x : Operand) {P : Program} {w : World} {ops : Array Oper} {rest : List Oper} {d : Option Tmp} {t : TypeId} {p : String} {af : Array Edge} {g : Option (Nat × Bool)} {a : Act} {Q : Exit → Act → World → Prop}
    (h : wpList P ops Q ({ dst := d, op := .load ty x, type := t, pos := p, after := af, guard := g } :: rest) a w) : wpList P ops Q ({ dst := d, op := .load ty x, type := t, pos := p, after := af, guard := g } :: rest) a w := h
theorem at_store (ty : TypeId) (x : Operand) {y : Operand} {P : Program} {w : World} {ops : Array Oper} {rest : List Oper} {d : Option Tmp} {t : TypeId} {p : String} {af : Array Edge} {g : Option (Nat × Bool)} {a : Act} {Q : Exit → Act → World → Prop}
    (h : wpList P ops Q ({ dst := d, op := .store ty x y, type := t, pos := p, after := af, guard := g } :: rest) a w) : wpList P ops Q ({ dst := d, op := .store ty x y, type := t, pos := p, after := af, guard := g } :: rest) a w := h
theorem at_build (ty : TypeId) {parts : Array (Nat × Operand)} {P : Program} {w : World} {ops : Array Oper} {rest : List Oper} {d : Option Tmp} {t : TypeId} {p : String} {af : Array Edge} {g : Option (Nat × Bool)} {a : Act} {Q : Exit → Act → World → Prop}
    (h : wpList P ops Q ({ dst := d, op := .build ty parts, type := t, pos := p, after := af, guard := g } :: rest) a w) : wpList P ops Q ({ dst := d, op := .build ty parts, type := t, pos := p, after := af, guard := g } :: rest) a w := h
theorem at_alloc (ty : TypeId) {P : Program} {w : World} {ops : Array Oper} {rest : List Oper} {d : Option Tmp} {t : TypeId} {p : String} {af : Array Edge} {g : Option (Nat × Bool)} {a : Act} {Q : Exit → Act → World → Prop}
    (h : wpList P ops Q ({ dst := d, op := .alloc ty, type := t, pos := p, after := af, guard := g } :: rest) a w) : wpList P ops Q ({ dst := d, op := .alloc ty, type := t, pos := p, after := af, guard := g } :: rest) a w := h
theorem at_box (ty : TypeId) (x : Operand) {P : Program} {w : World} {ops : Array Oper} {rest : List Oper} {d : Option Tmp} {t : TypeId} {p : String} {af : Array Edge} {g : Option (Nat × Bool)} {a : Act} {Q : Exit → Act → World → Prop}
    (h : wpList P ops Q ({ dst := d, op := .box ty x, type := t, pos := p, after := af, guard := g } :: rest) a w) : wpList P ops Q ({ dst := d, op := .box ty x, type := t, pos := p, after := af, guard := g } :: rest) a w := h
end Go.Proofs.Ytpbgelhjbfckcaa
/- A slice literal of one struct in a region; joining two orders. -/
namespace Go.Proofs.Ytpbgelhjbfckcaa
open Go.ChangeShapes Go.WideShapes Go.ChangeAt Go.RowKit
set_option linter.unusedVariables false
theorem have_tail2 {goal : Prop} {G I : Nat → World → Prop} (main : (∀ b w, I b w → G b w) → goal) (tl : ∀ b w, I b w → G b w) : goal := main tl
theorem step_slice_own {P : Program} {w w0 : World} {S : List Nat} {L : List (Nat × TypeId × List Value)} {ops : Array Oper} {op : Oper} {a : Act} {Q : Exit → Act → World → Prop} {K : Act → World → Prop} {E : Prop}
    (HO : Own w0 S L w) (hgd : op.guard = none) (t e : TypeId) (len : Nat) (parts : Array (Nat × Operand)) (ho : op.op = .buildSlice t len parts) (hu : P.underlying t = some (.slice e)) (cs : List Value)
    (hf : P.builtSlice e len (parts.map fun (i, x) => (i, a.eval x)).toList = some cs.toArray)
    (h : ∀ w' b, Own w0 S (L ++ [(b, e, cs)]) w' → K (a.put op.dst (.slice (some ⟨b, 0, none⟩) len len)) w') : if Region.wanted op (yielded ops a.tmps) = true then Oper.wp P op a w K Q else E := by
  have hw : Region.wanted op (yielded ops a.tmps) = true := by simp [Region.wanted, hgd]
  rw [if_pos hw]
  have hp : (Instr.buildSlice t len (parts.map fun (i, x) => (i, a.eval x))).run P w = .ok (.slice (some ⟨w.heap.size, 0, none⟩) len len) (w.alloc (.cells cs.toArray e)) := by
    unfold Program.builtSlice at hf
    cases hie : P.info? e with
    | none => simp [hie] at hf
    | some ie =>
      cases hz : ie.zero with
      | none => simp [hie, hz] at hf
      | some z =>
        simp only [hie, hz] at hf
        split at hf
        · cases hf
        · rename_i hn
          exact run_buildSlice w t e len _ _ ie z hu hie hz (fun h => hn (.inl h)) (fun h => hn (.inr h)) hf
  unfold Oper.wp execOp
  simp only [ho, Sem.run_bind, hp, Result.andThen_ok]
  exact h _ _ (HO.push (Blk.new w e cs.toArray) ((Below.refl _ _).alloc (Nat.le_refl _) _))
end Go.Proofs.Ytpbgelhjbfckcaa
/- Same of a request with itself. -/
namespace Go.Proofs.Ytpbgelhjbfckcaa
open Go.ChangeShapes Go.WideShapes Go.ChangeAt Go.RowKit
set_option linter.unusedVariables false
set_option linter.unusedSimpArgs false

theorem at_calls (f : FuncId) {P : Program} {args : Array Value} {w : World} {Q : Ending → World → Prop} (h : Calls P f args w Q) : Calls P f args w Q := h
def Yes (w : World) (e : Ending) (w' : World) : Prop := e = .returned (.bool true) ∧ Below w.heap.size w w'
set_option maxRecDepth 100000 in
theorem sameInts_nil (w : World) : Calls Try.prog 31 #[.slice none 0 0, .slice none 0 0] w (Yes w) := by
  go_enter Try.func31, Try.ntmps31
  go_wp2_with fail
  go_loop [5] (fun v5 => v5 = .int .i64 0) (fun _ => 0)
  case atStart => rfl
  case round =>
    subst hrel
    go_wp2_with fail
    go_ret
    exact ⟨rfl, Below.refl _ _⟩
set_option maxRecDepth 100000 in
theorem sameChange_zero (w : World) : Calls Try.prog 29 #[.agg #[zi, zi, zl, zl], .agg #[zi, zi, zl, zl]] w (Yes w) := by
  have HO := hide (Own.nil w [] (by simp))
  go_enter Try.func29, Try.ntmps29
  go_wp2_with (first
    | ((with_reducible refine at_box 30 (.tmp 0) ?_); refine wpList_box_own HO.out rfl 30 (.tmp 0) rfl ([zi, zi, zl, zl]) rfl ?_; intro WA b0 hO; replace HO := hide hO; clear hO)
    | ((with_reducible refine at_box 30 (.tmp 1) ?_); refine wpList_box_own HO.out rfl 30 (.tmp 1) rfl ([zi, zi, zl, zl]) rfl ?_; intro WA b1 hO; replace HO := hide hO; have k0 := hO.cells 0 rfl; have k1 := hO.cells 1 rfl; clear hO)
    | ((with_reducible refine at_calls 31 ?_); refine (sameInts_nil _).mono ?_; rintro e wN ⟨rfl, hb⟩; replace HO := hide (HO.out.step hb); replace k0 := HO.out.cells 0 rfl; replace k1 := HO.out.cells 1 rfl; clear hb))
  go_ret
  exact ⟨rfl, HO.out.below⟩
set_option maxRecDepth 100000 in
theorem sameConfig_zero (w : World) : Calls Try.prog 48 #[.agg #[zl, zl, zl], .agg #[zl, zl, zl]] w (Yes w) := by
  have HO := hide (Own.nil w [] (by simp))
  go_enter Try.func48, Try.ntmps48
  go_wp2_with (first
    | ((with_reducible refine at_box 34 (.tmp 0) ?_); refine wpList_box_own HO.out rfl 34 (.tmp 0) rfl ([zl, zl, zl]) rfl ?_; intro WA b0 hO; replace HO := hide hO; clear hO)
    | ((with_reducible refine at_box 34 (.tmp 1) ?_); refine wpList_box_own HO.out rfl 34 (.tmp 1) rfl ([zl, zl, zl]) rfl ?_; intro WA b1 hO; replace HO := hide hO; have k0 := hO.cells 0 rfl; have k1 := hO.cells 1 rfl; clear hO)
    | ((with_reducible refine at_calls 31 ?_); refine (sameInts_nil _).mono ?_; rintro e wN ⟨rfl, hb⟩; replace HO := hide (HO.out.step hb); replace k0 := HO.out.cells 0 rfl; replace k1 := HO.out.cells 1 rfl; clear hb))
  go_ret
  exact ⟨rfl, HO.out.below⟩
set_option maxRecDepth 100000 in
set_option maxHeartbeats 1000000 in
theorem sameStatus_zero (w : World) : Calls Try.prog 30 #[.agg #[zi, zi, zi, zi, zi, zi, zi, zi, zl, zl, zl, zl, zl, zl, zl], .agg #[zi, zi, zi, zi, zi, zi, zi, zi, zl, zl, zl, zl, zl, zl, zl]] w (Yes w) := by
  have HO := hide (Own.nil w [] (by simp))
  go_enter Try.func30, Try.ntmps30
  go_wp2_with (first
    | ((with_reducible refine at_box 36 (.tmp 0) ?_); refine wpList_box_own HO.out rfl 36 (.tmp 0) rfl ([zi, zi, zi, zi, zi, zi, zi, zi, zl, zl, zl, zl, zl, zl, zl]) rfl ?_; intro WA b0 hO; replace HO := hide hO; clear hO)
    | ((with_reducible refine at_box 36 (.tmp 1) ?_); refine wpList_box_own HO.out rfl 36 (.tmp 1) rfl ([zi, zi, zi, zi, zi, zi, zi, zi, zl, zl, zl, zl, zl, zl, zl]) rfl ?_; intro WA b1 hO; replace HO := hide hO; have k0 := hO.cells 0 rfl; have k1 := hO.cells 1 rfl; clear hO)
    | ((with_reducible refine at_calls 48 ?_); refine (sameConfig_zero _).mono ?_; rintro e wN ⟨rfl, hb⟩; replace HO := hide (HO.out.step hb); replace k0 := HO.out.cells 0 rfl; replace k1 := HO.out.cells 1 rfl; clear hb)
    | ((with_reducible refine at_calls 31 ?_); refine (sameInts_nil _).mono ?_; rintro e wN ⟨rfl, hb⟩; replace HO := hide (HO.out.step hb); replace k0 := HO.out.cells 0 rfl; replace k1 := HO.out.cells 1 rfl; clear hb))
  go_ret
  exact ⟨rfl, HO.out.below⟩
set_option maxRecDepth 100000 in
set_option maxHeartbeats 1000000 in
theorem sameMessage_zero (w : World) : Calls Try.prog 32 #[.agg #[zi, zi, zi, zi, zi, zi, zi, zi, zb0, zl, zi, zs, zb0], .agg #[zi, zi, zi, zi, zi, zi, zi, zi, zb0, zl, zi, zs, zb0]] w (Yes w) := by
  have HO := hide (Own.nil w [] (by simp))
  go_enter Try.func32, Try.ntmps32
  go_wp2_with (first
    | ((with_reducible refine at_box 39 (.tmp 0) ?_); refine wpList_box_own HO.out rfl 39 (.tmp 0) rfl ([zi, zi, zi, zi, zi, zi, zi, zi, zb0, zl, zi, zs, zb0]) rfl ?_; intro WA b0 hO; replace HO := hide hO; clear hO)
    | ((with_reducible refine at_box 39 (.tmp 1) ?_); refine wpList_box_own HO.out rfl 39 (.tmp 1) rfl ([zi, zi, zi, zi, zi, zi, zi, zi, zb0, zl, zi, zs, zb0]) rfl ?_; intro WA b1 hO; replace HO := hide hO; have k0 := hO.cells 0 rfl; have k1 := hO.cells 1 rfl; clear hO))
  go_loop [5] (fun v5 => v5 = .int .i64 0) (fun _ => 0)
  case atStart => rfl
  case round =>
    subst hrel
    go_wp2_with fail
    go_ret
    exact ⟨rfl, HO.out.below⟩
set_option maxRecDepth 100000 in
set_option maxHeartbeats 4000000 in
theorem same_req (k g c n : Int) (b : ByteArray) (v : Int) (w : World) : Calls Try.prog 17 #[.agg (req k g c n b v).toArray, .agg (req k g c n b v).toArray] w (Yes w) := by
  have HO := hide (Own.nil w [] (by simp))
  unfold req zmsg
  simp only [List.drop_succ_cons, List.drop_zero, List.cons_append, List.nil_append]
  go_enter Try.func17, Try.ntmps17
  go_wp2_with (first
    | ((with_reducible refine at_box 41 (.tmp 0) ?_); refine wpList_box_own HO.out rfl 41 (.tmp 0) rfl (_) rfl ?_; intro WA b0 hO; replace HO := hide hO; clear hO)
    | ((with_reducible refine at_box 41 (.tmp 1) ?_); refine wpList_box_own HO.out rfl 41 (.tmp 1) rfl (_) rfl ?_; intro WA b1 hO; replace HO := hide hO; have k0 := hO.cells 0 rfl; have k1 := hO.cells 1 rfl; clear hO)
    | ((with_reducible refine at_calls 29 ?_); refine (sameChange_zero _).mono ?_; rintro e wN ⟨rfl, hb⟩; replace HO := hide (HO.out.step hb); replace k0 := HO.out.cells 0 rfl; replace k1 := HO.out.cells 1 rfl; clear hb)
    | ((with_reducible refine at_calls 30 ?_); refine (sameStatus_zero _).mono ?_; rintro e wN ⟨rfl, hb⟩; replace HO := hide (HO.out.step hb); replace k0 := HO.out.cells 0 rfl; replace k1 := HO.out.cells 1 rfl; clear hb)
    | ((with_reducible refine at_calls 31 ?_); refine (sameInts_nil _).mono ?_; rintro e wN ⟨rfl, hb⟩; replace HO := hide (HO.out.step hb); replace k0 := HO.out.cells 0 rfl; replace k1 := HO.out.cells 1 rfl; clear hb)
    | ((with_reducible refine at_calls 32 ?_); refine (sameMessage_zero _).mono ?_; rintro e wN ⟨rfl, hb⟩; replace HO := hide (HO.out.step hb); replace k0 := HO.out.cells 0 rfl; replace k1 := HO.out.cells 1 rfl; clear hb))
  go_ret
  exact ⟨rfl, HO.out.below⟩
end Go.Proofs.Ytpbgelhjbfckcaa
