/- JournalCrashes: after a crash the journal has what succeeded, or the last call besides. -/
import Derived.Test.YtpadgkkeihhneaaGreatC44
import Derived.Test.YtpadgkkeihhneaaGreatC40
namespace Go.Proofs.YtpadgkkeihhneaaGreat
set_option maxRecDepth 100000
set_option linter.unusedSimpArgs false
set_option linter.unusedVariables false
open List renaming getElem_toArray → qa, getElem_cons_zero → qb, getElem_cons_succ → qc, setIfInBounds_toArray → qd, set_cons_zero → qe, set_cons_succ → qf
open Go.ChangeShapes Go.WideShapes Go.ChangeAt Go.RowKit
theorem Own.add {w0 W : World} {S : List Nat} {L : List (Nat × TypeId × List Value)} (h : Own w0 S L W) (b : Nat) (t : TypeId) (cs : List Value) (hb : Blk W b t cs.toArray) (hn : w0.heap.size ≤ b) (ha : b ∉ L.map (·.1)) : Own w0 S (L ++ [(b, t, cs)]) W := by
 refine ⟨fun e he => ?_, ?_, h.touch, h.old⟩
 ·rcases List.mem_append.1 he with he | he
  ·exact h.has e he
  ·simp only [List.mem_singleton] at he; subst he; exact ⟨hb, hn⟩
 ·rw [List.map_append, List.nodup_append]
  refine ⟨h.apart, by simp, fun a ha' c hc e => ?_⟩
  simp only [List.map_cons, List.map_nil, List.mem_singleton] at hc
  subst hc e
  exact ha ha'
/-- The block of a new slice of texts, if it has one. -/
theorem sl_block {w w' : World} {v : Value} {l : List (List UInt8)} (h : Sl w' v l) (ho : ∀ j, v.ownBlock = some j → w.heap.size ≤ j) : ∃ B : List Nat, (∀ b ∈ B, w.heap.size ≤ b ∧ b < w'.heap.size) ∧ ∀ S w'', Touch S w' w'' → (∀ b ∈ B, b ∉ S) → Sl w'' v l := by
 obtain ⟨A, c, rfl, h1, h2, h3⟩ := h
 rcases Nat.eq_zero_or_pos l.length with h0 | h0
 ·exact ⟨[], by simp, fun S w'' ht hb => ⟨A, c, rfl, h1, h2, fun h => by omega⟩⟩
 ·obtain ⟨b, off, rfl, hb, hc⟩ := h3 h0
  refine ⟨[b], fun j hj => ?_, fun S w'' ht hS => ⟨_, c, rfl, h1, h2, fun _ => ⟨b, off, rfl, Nat.lt_of_lt_of_le hb ht.size, fun j hj => ?_⟩⟩⟩
  ·have e : j = b := by simpa using hj
   subst e
   exact ⟨ho _ rfl, hb⟩
  ·rw [World.cell?_of_block (ht.block b hb (hS b (by simp)))]
   exact hc j hj
theorem Away.trans {X : List Nat} {a b c : World} (h : Away X a b) (k : Away X b c) : Away X a c := by
 obtain ⟨S, h1, h2⟩ := h
 obtain ⟨T, k1, k2⟩ := k
 exact ⟨S ++ T, (h1.mono (fun s hs => .inl (by simp [hs]))).trans (k1.mono (fun s hs => .inl (by simp [hs]))), fun j hj hm => by
  rcases List.mem_append.1 hm with hm | hm
  ·exact h2 j hj hm
  ·exact k2 j hj hm⟩
theorem Away.below {X : List Nat} {a b : World} (k : Below a.heap.size a b) : Away X a b := ⟨[], Touch.below k [], by simp⟩
theorem Away.less {X Y : List Nat} {a b : World} (h : Away X a b) (hY : ∀ j ∈ Y, j ∈ X) : Away Y a b := by
 obtain ⟨S, h1, h2⟩ := h
 exact ⟨S, h1, fun j hj => h2 j (hY j hj)⟩
theorem wstep_turn0 (D : DS) (J : JS) (o : POp) (h : o.kind = 0) : (wStep D J o).2.turn = J.turn := by
 unfold wStep
 rw [if_pos h]
 show (jAppend D J (pText o)).2.1.turn = J.turn
 unfold jAppend
 split
 ·rfl
 split
 ·rfl
 split <;> rfl
theorem below_of_alloc {w w' : World} {o : Obj} (h : w' = w.alloc o) : Below w.heap.size w w' := by
 rw [h]; exact (Below.refl _ _).alloc (Nat.le_refl _) _
theorem rs_empty {w w' : World} {base bE : Nat} (hE : bE = w.heap.size) (h : w' = w.alloc (.cells #[] 9)) (hb : base ≤ w.heap.size) : Rs w' base (.slice (some ⟨bE, 0, none⟩) 0 0) [] := by
 subst h hE
 exact row_lit w base 9 1 0 [] rfl (by unfold maxLen; omega) hb
theorem sl_lt {w : World} {v : Value} {l : List (List UInt8)} (h : Sl w v l) (hne : l ≠ []) : ∀ j, v.ownBlock = some j → j < w.heap.size := by
 obtain ⟨A, c, rfl, h1, h2, h3⟩ := h
 obtain ⟨b, off, rfl, hb, _⟩ := h3 (List.length_pos_iff.2 hne)
 intro j hj
 have hj2 : some b = some j := hj
 injection hj2 with e
 subst e
 exact hb
section
variable {w : World} {ops : Array Oper} {op : Oper} {a : Act} {Q : Exit → Act → World → Prop} {K : Act → World → Prop} {E : Prop}
theorem step_emptyS (hw : Region.wanted op (yielded ops a.tmps) = true) (t e : TypeId) (ho : op.op = .buildSlice t 0 #[]) (hu : Tryz.prog.underlying t = some (.slice e)) (hsz : (Tryz.prog.info? e).map (·.size) = some 1)
 (h : ∀ w' bE, bE = w.heap.size → w' = w.alloc (.cells #[] e) → K (a.put op.dst (.slice (some ⟨bE, 0, none⟩) 0 0)) w') : if Region.wanted op (yielded ops a.tmps) = true then Oper.wp Tryz.prog op a w K Q else E := by
 rw [if_pos hw]
 have hr : (Instr.buildSlice t 0 #[]).run Tryz.prog w = .ok (.slice (some ⟨w.heap.size, 0, none⟩) 0 0) (w.alloc (.cells #[] e)) := by
  obtain ⟨i, h1, h2⟩ := Option.map_eq_some_iff.mp hsz
  simp [Instr.buildSlice, run_underlying hu, sizeOf, typeInfo, h1, h2, Instr.fill, newRow]
  first | rfl | (congr 2; simp; done) | (congr 2; rw [show Array.range 0 = #[] from by decide]; rfl)
 unfold Oper.wp execOp
 simp only [ho, Array.map_empty, List.map_toArray, List.map_nil, Sem.run_bind, hr, Result.andThen_ok]
 exact h _ _ rfl rfl
theorem step_append_sl (hw : Region.wanted op (yielded ops a.tmps) = true) (s x : Operand) (ho : op.op = .call { callee := .builtin .append, args := #[s, x], argTypes := #[49, 49] }) (base : Nat) {v vx : Value} {l m : List (List UInt8)}
 (hs : a.eval s = v) (hv : Rs w base v l) (hx : a.eval x = vx) (hm : Sl w vx m) (hlen : l.length + m.length ≤ 2000000) (hbase : base ≤ w.heap.size)
 (h : ∀ v' w', Rs w' base v' (l ++ m) → w.grownBy w' v.ownBlock → (v'.ownBlock = v.ownBlock ∨ v'.ownBlock = some w.heap.size) → K (a.put op.dst v') w') : if Region.wanted op (yielded ops a.tmps) = true then Oper.wp Tryz.prog op a w K Q else E := by
 rw [if_pos hw]
 obtain ⟨v', w', h1, h2, h3, h4⟩ := run_append_sl base op.type hv hm hlen hbase
 unfold Oper.wp execOp
 simp only [ho, resolve, invoke, builtin, Sem.run_bind, Sem.run_pure, Result.andThen_ok, List.map_toArray, List.map_cons, List.map_nil, hs, hx, h1]
 exact h v' w' h2 h3 h4
end
theorem sv_same {a b : List UInt8} {s t : ByteArray} (h1 : sv a = .string s) (h2 : sv b = .string t) (h : a = b) : s = t := by
 subst h
 rw [h1] at h2
 injection h2
section
variable {J2 J3 K : JS} {o : POp} {k2 zt zt7 zK : Int} {sS sK sT : ByteArray}
/-- The state is another one: the last operation has saved. -/
theorem crash_a (h : K = nextJ J2 o ∨ K = J2 ∧ J3.turn = J2.turn ∧ J3.records = J2.records) (hk : o.kind = 0 ∨ o.kind = 1) (h2 : o.kind = k2) (hS : sv J2.state = .string sS) (hK : sv K.state = .string sK) (hT : (⟨(pText o).toArray⟩ : ByteArray) = sT) (ht : (J2.turn : Int) = zt) (hz : (K.turn : Int) = zK) (hne : ¬ sK = sS) :
 k2 = 1 ∧ sK = sT ∧ zK = zt + 1 ∧ K.records = [] := by
 rcases h with h | ⟨h, _⟩
 ·rcases hk with h0 | h0
  ·have e : nextJ J2 o = { J2 with records := J2.records ++ [pText o], used := J2.used + pagesN (pText o).length } := by unfold nextJ; rw [if_pos h0]
   rw [e] at h
   exact absurd (sv_same hK hS (by rw [h])) hne
  ·have e : nextJ J2 o = ⟨J2.turn + 1, pText o, [], pagesN (pText o).length, false⟩ := by unfold nextJ; rw [if_neg (by omega)]
   rw [e] at h
   subst h
   refine ⟨by omega, ?_, by dsimp only at hz; omega, rfl⟩
   dsimp only at hK
   unfold sv at hK
   injection hK with hK
   rw [← hK, hT]
 ·exact absurd (sv_same hK hS (by rw [h])) hne
theorem crash_b (h : K = nextJ J2 o ∨ K = J2 ∧ J3.turn = J2.turn ∧ J3.records = J2.records) (hk : o.kind = 0 ∨ o.kind = 1) (h2 : o.kind = k2) (hS : sv J2.state = .string sS) (hK : sv K.state = .string sK) (hT : (⟨(pText o).toArray⟩ : ByteArray) = sT) (ht : (J2.turn : Int) = zt) (hz : (K.turn : Int) = zK) (hne : ¬ zK = zt) :
 k2 = 1 ∧ sK = sT ∧ zK = zt + 1 ∧ K.records = [] := by
 rcases h with h | ⟨h, _⟩
 ·rcases hk with h0 | h0
  ·have e : nextJ J2 o = { J2 with records := J2.records ++ [pText o], used := J2.used + pagesN (pText o).length } := by unfold nextJ; rw [if_pos h0]
   rw [e] at h
   subst h
   dsimp only at hz
   omega
  ·have e : nextJ J2 o = ⟨J2.turn + 1, pText o, [], pagesN (pText o).length, false⟩ := by unfold nextJ; rw [if_neg (by omega)]
   rw [e] at h
   subst h
   refine ⟨by omega, ?_, by dsimp only at hz; omega, rfl⟩
   dsimp only at hK
   unfold sv at hK
   injection hK with hK
   rw [← hK, hT]
 ·subst h; omega
theorem crash_c_ (h : K = nextJ J2 o ∨ K = J2 ∧ J3.turn = J2.turn ∧ J3.records = J2.records) (hk : o.kind = 0 ∨ o.kind = 1) (h2 : o.kind = k2) (ht : (J2.turn : Int) = zt) (hz : (K.turn : Int) = zt) :
 (k2 = 0 ∧ K.records = J2.records ++ [pText o]) ∨ (K.records = J2.records ∧ J3.turn = J2.turn ∧ J3.records = J2.records) := by
 rcases h with h | ⟨h, h3, h4⟩
 ·rcases hk with h0 | h0
  ·have e : nextJ J2 o = { J2 with records := J2.records ++ [pText o], used := J2.used + pagesN (pText o).length } := by unfold nextJ; rw [if_pos h0]
   rw [e] at h
   subst h
   exact .inl ⟨by omega, rfl⟩
  ·have e : nextJ J2 o = ⟨J2.turn + 1, pText o, [], pagesN (pText o).length, false⟩ := by unfold nextJ; rw [if_neg (by omega)]
   rw [e] at h
   subst h
   dsimp only at hz
   omega
 ·subst h; exact .inr ⟨rfl, h3, h4⟩
theorem crash_len (h : K = nextJ J2 o ∨ K = J2 ∧ J3.turn = J2.turn ∧ J3.records = J2.records) : K.records.length ≤ J2.records.length + 1 := by
 rcases h with h | ⟨h, _⟩
 ·rw [h]
  unfold nextJ
  split
  ·simp
  ·exact Nat.zero_le _
 ·rw [h]; exact Nat.le_succ _
theorem crash_no (h : K = nextJ J2 o ∨ K = J2 ∧ J3.turn = J2.turn ∧ J3.records = J2.records) (hk : o.kind = 0 ∨ o.kind = 1) (h0 : o.kind = 0 → J3.turn = J2.turn) (ht : (J2.turn : Int) = zt) (h7 : (J3.turn : Int) = zt7) (hz : (K.turn : Int) = zK) (hne : ¬ zt7 = zt) (he : zK = zt) : False := by
 rcases h with h | ⟨h, h3, h4⟩
 ·rcases hk with h1 | h1
  ·have := h0 h1; omega
  ·have e : nextJ J2 o = ⟨J2.turn + 1, pText o, [], pagesN (pText o).length, false⟩ := by unfold nextJ; rw [if_neg (by omega)]
   rw [e] at h
   subst h
   dsimp only at hz
   omega
 ·omega
end
/-- Between two rounds. -/
def CrR (W W4 : World) (X : List Nat) (x : Nat) (l : List POp) (v11 : Value) (w : World) : Prop := ∃ (i d g : Nat) (D : DS) (J : JS), v11 = .int .i64 i ∧ i ≤ l.length ∧ Ww W W4 X x d g w D J ∧ Kept i D J ∧ Inv D J i
set_option maxHeartbeats 16000000 in
theorem walkJournalCrashes (W : World) (a0 : Int) (ws0 : (Lit.int .u8 a0).wf = true) (v1 : Value) (l : List POp) (h1 : PopsIn W v1 l) (v2 : Value) (lo : POp) (h2 : v2 = .agg lo.cells.toArray ∧ lo.Ok W) (v3 : Value) (sl : List Int) (h3 : Is W v3 sl) :
 Calls Tryz.prog 5 #[.int .u8 a0, v1, v2, v3] W fun e w' => e = .returned (.bool true) ∧ Below W.heap.size W w' := by
 have ⟨q0, q1⟩ : 0 ≤ a0 ∧ a0 ≤ 255 := by simpa [Lit.wf, IntKind.min, IntKind.max, IntKind.signed, IntKind.bits] using ws0
 have e20 : a0.tmod 20 = a0 % 20 := Int.tmod_eq_emod_of_nonneg q0
 obtain ⟨n, hn⟩ : ∃ n : Nat, 8 + a0 % 20 = n := ⟨(8 + a0 % 20).toNat, by omega⟩
 have hn8 : 8 ≤ n := by omega
 have hn28 : n ≤ 28 := by omega
 have hm : a0 % 20 = (n : Int) - 8 := by omega
 rw [hm] at e20
 have hnz : (8 : Int) ≤ (n : Int) := by omega
 have hnz2 : (n : Int) ≤ 28 := by omega
 obtain ⟨Ao, nl, co, rfl, hnl, hnc, hcm⟩ := h1.form
 obtain ⟨Av, nv, cv, rfl, hnv, hvc, hvm⟩ := h3.formN
 obtain ⟨rfl, hlo⟩ := h2
 obtain ⟨Al, ml, cl, hsv, hx1, hx2, hx3⟩ := hlo.surv.formN
 unfold POp.cells
 rw [hsv]
 have HLO := hide hlo
 have HSV := hide hsv
 have H := hide h1
 have HV3 := hide h3
 have HFW := hide (fun (X : World) (k : Below W.heap.size W X) => fewP_c _ l 16 X (h1.step k))
 have HN8 := hide hn8
 have HN28 := hide hn28
 have HO : Hid (Own W [] [] W) := hide (Own.nil W [] (by simp))
 obtain ⟨lk, hlk⟩ : ∃ z, lo.kind = z := ⟨_, rfl⟩
 obtain ⟨ln, hln⟩ : ∃ z, lo.n = z := ⟨_, rfl⟩
 obtain ⟨lm, hlm⟩ : ∃ z, lo.m = z := ⟨_, rfl⟩
 obtain ⟨lf, hlf⟩ : ∃ z : Int, (lo.fill : Int) = z := ⟨_, rfl⟩
 rw [hlk, hln, hlm, hlf]
 have HLK := hide hlk
 have HLN := hide hln
 have HLM := hide hlm
 have HLF := hide hlf
 clear ws0 q0 q1 hn hn8 hn28 hm h1 h3 hlo hsv hx1 hx2 hx3 hlk hln hlm hlf
 go_enter Tryz.func5, Tryz.ntmps5
 go_wp2_with (first
  | ((with_reducible refine at_box 42 (.tmp 2) ?_); refine wpList_box_own_n HO.out rfl 42 (.tmp 2) rfl ([.int .i64 lk, .int .i64 ln, .int .i64 lm, .int .u8 lf, .slice Al ml cl]) rfl ?_; intro WB b6 hb hO hbel; replace HO := hide hO; clear hO hb hbel))
 refine (awake_c _).mono ?_
 rintro e w1 ⟨rfl, hb1⟩
 replace HO := hide (HO.out.step hb1)
 clear hb1
 go_wp2_with fail
 refine (HFW.out w1 HO.out.below).mono ?_
 rintro e w2 ⟨rfl, rfl⟩
 clear HFW
 by_cases hf : fewP l 16 = true
 case neg =>
  have hf' : fewP l 16 = false := by simpa using hf
  rw [hf']
  clear hf hf'
  go_wp2_with fail
  go_ret
  exact ⟨rfl, HO.out.below⟩
 have HL := hide (fewP_len (k := 16) hf)
 rw [hf]
 clear hf
 by_cases hv12 : 12 < nv
 ·have hv12i : (12 : Int) < (nv : Int) := by omega
  go_wp2_with fail
  go_ret
  exact ⟨rfl, HO.out.below⟩
 have hv12i : (nv : Int) ≤ 12 := by omega
 clear hv12
 go_wp2_with fail
 rw [show (8 + ((n : Int) - 8)) = (n : Int) by omega]
 refine (start_c W W [] [b6] [(b6, 42, [.int .i64 lk, .int .i64 ln, .int .i64 lm, .int .u8 lf, .slice Al ml cl])] n HN8.out (by have := HN28.out; omega) w1 HO.out (by simp) (by simp) (fun j hj => ?_) ((Away.refl [] W).next (Touch.below HO.out.below []) (by simp) (by simp))).mono ?_
 ·have e : j = b6 := by simpa using hj
  subst e
  exact ⟨HO.out.new 0 rfl, (HO.out.blk 0 rfl).lt⟩
 rintro e w2 ⟨d, g, vc, rfl, hO, hZ⟩
 obtain ⟨A, m, c, B, mb, bb, Ar, nr, cr, rfl⟩ := hZ.cells9
 replace HO := hide hO
 have HZ := hide hZ
 clear hO hZ
 unfold wcs rjc
 unfold rjc at HZ
 generalize (dNew n).fuse = fz at HZ ⊢
 generalize (dNew n).failed = fl at HZ ⊢
 generalize (js0.turn : Int) = zt at HZ ⊢
 generalize js0.state = st at HZ ⊢
 generalize (js0.used : Int) = zu at HZ ⊢
 generalize js0.broken = br at HZ ⊢
 go_wp2_with (first
  | ((with_reducible refine at_alloc 55 ?_); refine wpList_alloc_own_n HO.out rfl 55 rfl zlw world_info ?_; intro WA x hb hO hbel; replace HZ := hide (HZ.out.push (keeps_jn g d (dNew n) js0) hb hbel (hO.blk 1 rfl).lt); replace HO := hide hO; clear hO hbel hb)
  | ((with_reducible refine at_store 55 (.tmp 9) ?_); refine wpList_store_own_t HO.out rfl 55 (.tmp 9) (.tmp 36) rfl 1 _ 0 _ _ ([.pointer (some ⟨d, 0, none⟩), .pointer (some ⟨g, 0, none⟩), .slice A m c, .slice B mb bb, .int .i64 fz, .bool fl, .int .i64 zt, sv st, .slice Ar nr cr, .int .i64 zu, .bool br]) ([.pointer (some ⟨d, 0, none⟩), .pointer (some ⟨g, 0, none⟩), .slice A m c, .slice B mb bb, .int .i64 fz, .bool fl, .int .i64 zt, sv st, .slice Ar nr cr, .int .i64 zu, .bool br]) rfl (.agg ([.pointer (some ⟨d, 0, none⟩), .pointer (some ⟨g, 0, none⟩), .slice A m c, .slice B mb bb, .int .i64 fz, .bool fl, .int .i64 zt, sv st, .slice Ar nr cr, .int .i64 zu, .bool br] : List Value).toArray) rfl rfl (fits_agg _) (by simp [zlw]) (splice_all rfl) (by kernel_rfl) rfl ?_; intro WA hO _ ht; replace HZ := hide (HZ.out.put (keeps_jn g d (dNew n) js0) (by simp) ht); replace HO := hide hO; clear hO ht))
 have HK : Hid (Kept 0 (dNew n) js0) := hide (Kept.opened (live_new n HN8.out (by have := HN28.out; omega)) rfl (jOpen_good (dNew_good n HN8.out (by have := HN28.out; omega))) 0)
 have HI : Hid (Inv (dNew n) js0 0) := hide (.inl ⟨live_zero n HN8.out (by have := HN28.out; omega), Nat.le_refl _⟩)
 have HNE : Hid (b6 ≠ x) := hide (by
  have hx := HO.out.apart
  simp at hx
  exact hx)
 have HB6 : Hid (Blk WA b6 42 ([.int .i64 lk, .int .i64 ln, .int .i64 lm, .int .u8 lf, .slice Al ml cl] : List Value).toArray) := hide (HO.out.blk 0 rfl)
 have HN6 : Hid (W.heap.size ≤ b6) := hide (HO.out.new 0 rfl)
 have HW : Hid (Ww W WA [b6] x d g WA (dNew n) js0) := hide (Ww.of (vc := [.slice A m c, .slice B mb bb, .int .i64 fz, .bool fl, .int .i64 zt, sv st, .slice Ar nr cr, .int .i64 zu, .bool br]) (HO.out.sub (List.sublist_cons_self _ _)) (HZ.out.rebase [b6] [x] (by simp) (by simp) (by simp; exact HNE.out)))
 clear HO HZ
 go_wp2_with fail
 go_loopw [11] (fun v11 wr => CrR W WA [b6] x l v11 wr) (fun v11 _ => nl - (intOf v11).toNat)
 case atStart => exact ⟨0, d, g, _, _, rfl, Nat.zero_le _, HW.out, HK.out, HI.out⟩
 case round =>
  obtain ⟨i, d1, g1, D, J, rfl, hi, hw, hk, hin⟩ := hrel
  clear HW HK HI
  have HW := hide hw
  have HK := hide hk
  have HI := hide hin
  clear hw hk hin
  by_cases hlt : i < nl
  ·have hil : i < l.length := by rw [← hnl.out]; exact hlt
   obtain ⟨gl, ol, rfl, hgl, hok, hcx⟩ := H.out.at_ i hil
   obtain ⟨o, hxs⟩ : ∃ o, l[i]? = some o := ⟨_, List.getElem?_eq_getElem hil⟩
   have hox : l[i] = o := by rw [List.getElem?_eq_getElem hil] at hxs; injection hxs
   clear hcx
   rw [hox] at hok
   have HOK := hide hok
   obtain ⟨As, ms, cs, hsv, hx1, hx2, hx3⟩ := hok.surv.formN
   have HOP := hide (fun (X : World) (k : Below W.heap.size W X) => pop_cells (w' := X) H.out hil o hxs hsv (fun a ha => k.cell (p := a) (by rw [ha]; exact hgl)))
   have HOC : Hid (∀ X : World, Below W.heap.size W X → X.cell? ⟨gl, ol + i * 5, none⟩ = some (.int .i64 o.kind) ∧ X.cell? ⟨gl, ol + i * 5 + 4, none⟩ = some (.slice As ms cs)) := hide (fun X k => ⟨(HOP.out X k).1, (HOP.out X k).2.2.2.2⟩)
   have HIS : Hid (∀ X : World, Below W.heap.size W X → Is X (.slice As ms cs) o.sl) := hide (fun X k => by rw [← hsv]; exact hok.surv.step k)
   have HI20 : Hid (i ≤ 200) := hide (by have := HL.out; omega)
   have HKN := hide (HK.out.wstep HI20.out o HOK.out).1
   have HST := hide (fun (X : World) (h : Ww W WA [b6] x d1 g1 X D J) => wstep_c W WA [b6] x d1 g1 D J o X h HK.out.sound (HK.out.jok HI20.out) HOK.out)
   have HLT := hide hlt
   have hki : (i : Int) < (nl : Int) := by omega
   unfold POp.cells at HST
   rw [hsv] at HST
   obtain ⟨A, n2, c, B, m, bb, Ar, nr, cr, hO, hZ⟩ := HW.out
   unfold wcs rjc at hO
   unfold rjc at hZ
   generalize D.fuse = fz at hO hZ
   generalize D.failed = fl at hO hZ
   generalize (J.turn : Int) = zt at hO hZ
   generalize J.state = st at hO hZ
   generalize (J.used : Int) = zu at hO hZ
   generalize J.broken = br at hO hZ
   have HO := hide hO
   have HZ := hide hZ
   clear hO hZ hok hxs hox hsv hgl hlt hil hx1 hx2 hx3 HW
   by_cases hk4 : o.kind = 4
   ·have q4 : (o.kind == 4) = true := by simpa using hk4
    have HK4 := hide hk4
    clear hk4
    go_wp2_with fail
    refine wp_region_held_drew (S := fun W => (∀ j, W.cell? ⟨x, j, none⟩ = ([.pointer (some ⟨d1, 0, none⟩), .pointer (some ⟨g1, 0, none⟩), .slice A n2 c, .slice B m bb, .int .i64 fz, .bool fl, .int .i64 zt, sv st, .slice Ar nr cr, .int .i64 zu, .bool br] : List Value)[j]?) ∧ W.cell? ⟨gl, ol + i * 5, none⟩ = some (.int .i64 o.kind) ∧ W.cell? ⟨gl, ol + i * 5 + 4, none⟩ = some (.slice As ms cs)) (by kernel_rfl) (⟨HO.out.drew.cells 0 rfl, (HOC.out _ HO.out.drew.below).1, (HOC.out _ HO.out.drew.below).2⟩) (fun hS0 => ?_)
    replace HO := hide HO.out.drew
    replace HZ := hide (HZ.out.step (keeps_jn g1 d1 D J) (below_drew _))
    refine tk 0 ?_
    refine tk 1 ?_
    refine tk 2 ?_
    refine tk 3 ?_
    refine tk 4 ?_
    refine tk 5 ?_
    refine tk 6 ?_
    refine tk 7 ?_
    refine tk 8 ?_
    refine ty 9 (.agg ([.slice A n2 c, .slice B m bb, .int .i64 fz, .bool fl] : List Value).toArray) rfl (yieldsIf_load rfl 32 (.tmp 54) rfl x 2 4 55 ([.pointer (some ⟨d1, 0, none⟩), .pointer (some ⟨g1, 0, none⟩), .slice A n2 c, .slice B m bb, .int .i64 fz, .bool fl, .int .i64 zt, sv st, .slice Ar nr cr, .int .i64 zu, .bool br]) ([.slice A n2 c, .slice B m bb, .int .i64 fz, .bool fl]) _ (fun w hw => hw.1) rfl rfl Tryz.underlying32 rfl (by kernel_rfl)) ?_
    refine tk 10 ?_
    refine tk 11 ?_
    refine tk 12 ?_
    refine tk 13 ?_
    refine tk 14 ?_
    refine tr1 15 fun K hK => ?_
    go_simp
    refine (Zs.look (keeps_jn g1 d1 D J) HZ.out (fun F hr => rcoin_c F _ D (.slice As ms cs) o.sl _ (Rj.rf hr) (HIS.out _ HO.out.below) (by have := HK.out.sound.few; omega) (by have := HK.out.sound.top; omega) HK.out.sound.len) (fun e w' h => h.2)).mono ?_
    rintro e w5 ⟨⟨rfl, hb5⟩, hz⟩
    replace HO := hide (HO.out.step hb5)
    replace HZ := hide hz
    clear hb5 hz
    refine hK.out _ _ (⟨HO.out.cells 0 rfl, (HOC.out _ HO.out.below).1, (HOC.out _ HO.out.below).2⟩) (fun hS15 => ?_)
    clear hK K
    try simp only [Act.put, qa, qb, qc, qd, qe, qf]
    refine tk 16 ?_
    refine wpAnyH_done (by kernel_rfl) ?_ _
    clear hS0 q4
    by_cases hco : coin D o.sl = true
    ·rw [hco]
     go_wp2_with fail
     go_ret
     exact ⟨rfl, HO.out.below⟩
    have hco' : coin D o.sl = false := by simpa using hco
    rw [hco']
    have HIN := hide (HI.out.wstep (by have := HI20.out; omega) o HOK.out (fun _ => hco'))
    clear hco hco'
    have HWS := hide (Ww.of (vc := [.slice A n2 c, .slice B m bb, .int .i64 fz, .bool fl, .int .i64 zt, sv st, .slice Ar nr cr, .int .i64 zu, .bool br]) HO.out HZ.out)
    clear HO HZ
    obtain ⟨c0, c1, c2, c3, c4⟩ := HOP.out _ HWS.out.below
    go_wp2_with fail
    refine (HST.out _ HWS.out).mono ?_
    rintro e w4 ⟨rfl, g2, hw⟩
    replace HW := hide hw
    clear hw HST c0 c1 c2 c3 c4 HWS
    go_wp2_with fail
    go_roundw
    case rel => exact ⟨i + 1, d1, g2, _, _, by go_num, by have := HLT.out; have := hnl.out; omega, HW.out, HKN.out, HIN.out⟩
    case measure => have := HLT.out; simp [intOf]; omega
   ·have q4 : (o.kind == 4) = false := by simpa using hk4
    have HIN := hide (HI.out.wstep (by have := HI20.out; omega) o HOK.out (fun e => absurd e hk4))
    clear hk4
    go_wp2_with fail
    refine wp_region_held_drew (S := fun W => (∀ j, W.cell? ⟨x, j, none⟩ = ([.pointer (some ⟨d1, 0, none⟩), .pointer (some ⟨g1, 0, none⟩), .slice A n2 c, .slice B m bb, .int .i64 fz, .bool fl, .int .i64 zt, sv st, .slice Ar nr cr, .int .i64 zu, .bool br] : List Value)[j]?) ∧ W.cell? ⟨gl, ol + i * 5, none⟩ = some (.int .i64 o.kind) ∧ W.cell? ⟨gl, ol + i * 5 + 4, none⟩ = some (.slice As ms cs)) (by kernel_rfl) (⟨HO.out.drew.cells 0 rfl, (HOC.out _ HO.out.drew.below).1, (HOC.out _ HO.out.drew.below).2⟩) (fun hS0 => ?_)
    replace HO := hide HO.out.drew
    replace HZ := hide (HZ.out.step (keeps_jn g1 d1 D J) (below_drew _))
    refine tk 0 ?_
    refine tk 1 ?_
    refine tk 2 ?_
    refine tk 3 ?_
    refine tk 4 ?_
    refine tk 5 ?_
    refine tk 6 ?_
    refine ty 7 (undef) rfl (Or.inr ⟨by rfl, rfl⟩) ?_
    refine ty 8 (undef) rfl (Or.inr ⟨by rfl, rfl⟩) ?_
    refine ty 9 (undef) rfl (Or.inr ⟨by rfl, rfl⟩) ?_
    refine ty 10 (undef) rfl (Or.inr ⟨by rfl, rfl⟩) ?_
    refine ty 11 (undef) rfl (Or.inr ⟨by rfl, rfl⟩) ?_
    refine ty 12 (undef) rfl (Or.inr ⟨by rfl, rfl⟩) ?_
    refine ty 13 (undef) rfl (Or.inr ⟨by rfl, rfl⟩) ?_
    refine ty 14 (undef) rfl (Or.inr ⟨by rfl, rfl⟩) ?_
    refine ty 15 (undef) rfl (Or.inr ⟨by rfl, rfl⟩) ?_
    refine tk 16 ?_
    refine wpAnyH_done (by kernel_rfl) ?_ _
    clear hS0 q4
    have HWS := hide (Ww.of (vc := [.slice A n2 c, .slice B m bb, .int .i64 fz, .bool fl, .int .i64 zt, sv st, .slice Ar nr cr, .int .i64 zu, .bool br]) HO.out HZ.out)
    clear HO HZ
    obtain ⟨c0, c1, c2, c3, c4⟩ := HOP.out _ HWS.out.below
    go_wp2_with fail
    refine (HST.out _ HWS.out).mono ?_
    rintro e w4 ⟨rfl, g2, hw⟩
    replace HW := hide hw
    clear hw HST c0 c1 c2 c3 c4 HWS
    go_wp2_with fail
    go_roundw
    case rel => exact ⟨i + 1, d1, g2, _, _, by go_num, by have := HLT.out; have := hnl.out; omega, HW.out, HKN.out, HIN.out⟩
    case measure => have := HLT.out; simp [intOf]; omega
  ·obtain rfl : i = nl := by have := hnl.out; omega
   clear hlt
   go_wp2_with fail
   obtain ⟨D2, J2, hre, hl2, ht2⟩ := inv_reopen HI.out
   refine (wopen_c W WA [b6] x d1 g1 D J _ HW.out HK.out.sound).mono ?_
   rintro e w4 ⟨rfl, g3, hw⟩
   rw [hre] at hw
   dsimp only at hw
   have HL2 := hide hl2
   have HT16 : Hid (J2.turn ≤ 200) := hide (by have := HL.out; omega)
   have HR2 : Hid (J2.records.length ≤ 100000) := hide (by have h1 := hl2.used.2; have h2 := hl2.halfLe; omega)
   clear HW HK HI hre hl2 ht2 hi
   clear D J
   obtain ⟨A, n2, c, B, m, bb, Ar, nr, cr, hO, hZ⟩ := hw
   have hb := hZ.away
   have hO2 := hO.add b6 42 ([.int .i64 lk, .int .i64 ln, .int .i64 lm, .int .u8 lf, .slice Al ml cl]) (by obtain ⟨S, hS, hx⟩ := hb; exact HB6.out.touch hS (hx b6 (by simp))) HN6.out (by simp; exact HNE.out)
   replace hZ := hZ.rebase [] [x, b6] (by simp) (by simp; exact .inr HN6.out) (by simp)
   clear hO hb
   unfold wcs rjc at hO2
   unfold rjc at hZ
   generalize D2.fuse = fz at hO2 hZ
   generalize D2.failed = fl at hO2 hZ
   obtain ⟨zt, hzt⟩ : ∃ z : Int, (J2.turn : Int) = z := ⟨_, rfl⟩
   rw [hzt] at hO2 hZ
   have HT2 := hide hzt
   obtain ⟨sS, hz4⟩ : ∃ S : ByteArray, sv J2.state = .string S := ⟨_, rfl⟩
   rw [hz4] at hO2 hZ
   have HS2 := hide hz4
   generalize (J2.used : Int) = zu at hO2 hZ
   generalize J2.broken = br at hO2 hZ
   have HO := hide hO2
   have HZ := hide hZ
   clear hO2 hZ hzt hz4
   go_wp2_with fail
   refine wp_region_held_drew (S := fun W => (∀ j, W.cell? ⟨x, j, none⟩ = ([.pointer (some ⟨d1, 0, none⟩), .pointer (some ⟨g3, 0, none⟩), .slice A n2 c, .slice B m bb, .int .i64 fz, .bool fl, .int .i64 zt, .string sS, .slice Ar nr cr, .int .i64 zu, .bool br] : List Value)[j]?)) (by kernel_rfl) (HO.out.drew.cells 0 rfl) (fun hS0 => ?_)
   replace HO := hide HO.out.drew
   replace HZ := hide (HZ.out.step (keeps_jn g3 d1 D2 J2) (below_drew _))
   refine tk 0 ?_
   refine tk 1 ?_
   refine tk 3 ?_
   refine tk 4 ?_
   refine tk 6 ?_
   refine tk 7 ?_
   refine tr1 2 fun K hK => ?_
   go_simp
   obtain ⟨Fj, qj, hjr⟩ := HZ.out.jr
   refine (state_c g3 d1 Fj D2 J2 qj _ hjr).mono ?_
   rintro e wq ⟨rfl, rfl⟩
   clear hjr
   rw [HS2.out]
   refine hK.out _ _ (HO.out.cells 0 rfl) (fun hS6 => ?_)
   clear hK K
   try simp only [Act.put, qa, qb, qc, qd, qe, qf]
   refine tr1 5 fun K hK => ?_
   go_simp
   obtain ⟨Fj, qj, hjr⟩ := HZ.out.jr
   refine (records_c g3 d1 Fj D2 J2 qj _ hjr (by have := HR2.out; omega)).mono ?_
   rintro e w8 ⟨v13, rfl, hs13, ho13, hb8⟩
   obtain ⟨B13, hB13, hT13⟩ := sl_block hs13 ho13
   have hxl := (HO.out.blk 0 rfl).lt
   have h6l := (HO.out.blk 1 rfl).lt
   have HBX : Hid (∀ j ∈ B13, j ≠ x ∧ j ≠ b6) := hide (fun j hj => by have := (hB13 j hj).1; exact ⟨by omega, by omega⟩)
   clear hxl h6l
   obtain ⟨Ar3, m3, c3, rfl, hx2, hx3, hx4⟩ := hs13.formN
   replace HO := hide (HO.out.step hb8)
   replace HZ := hide (HZ.out.fresh (keeps_jn g3 d1 D2 J2) hb8 B13 hB13)
   have HSR := hide hs13
   have HT13 := hide hT13
   clear hjr hs13 ho13 hb8 hx2 hx3 hx4 hB13 hT13
   refine hK.out _ _ (HO.out.cells 0 rfl) (fun hS7 => ?_)
   clear hK K
   try simp only [Act.put, qa, qb, qc, qd, qe, qf]
   refine tr1 8 fun K hK => ?_
   go_simp
   obtain ⟨Fj, qj, hjr⟩ := HZ.out.jr
   refine (turn_c g3 d1 Fj D2 J2 qj _ hjr).mono ?_
   rintro e wq ⟨rfl, rfl⟩
   clear hjr
   rw [HT2.out]
   refine hK.out _ _ (HO.out.cells 0 rfl) (fun hS8 => ?_)
   clear hK K
   try simp only [Act.put, qa, qb, qc, qd, qe, qf]
   refine tk 9 ?_
   refine tk 10 ?_
   refine tk 11 ?_
   refine wpAnyH_done (by kernel_rfl) ?_ _
   clear hS0
   have kx := HO.out.cells 0 rfl
   have k6 := HO.out.cells 1 rfl
   go_wp2_with fail
   replace HZ := hide (HZ.out.rebase B13 [x, b6] (fun j hj => .inr (by simp [hj])) (fun j hj => .inl (by simp only [List.mem_append]; exact .inl hj)) (fun j hj hm => by have := HBX.out j hj; simp at hm; omega))
   have HT : Hid (∀ W', Away B13 w8 W' → Sl W' (.slice Ar3 m3 c3) J2.records) := hide (fun W' h => by obtain ⟨S, hS, hx⟩ := h; exact HT13.out S W' hS hx)
   have HM3 : Hid (m3 = J2.records.length) := hide (by obtain ⟨A0, n0, c0, e, hm, _⟩ := HSR.out.formN; injection e with e1 e2; rw [e2]; exact hm.out)
   clear HT13 HSR
   obtain ⟨fm, hfm⟩ : ∃ z : Int, max 0 lm % 8 = z := ⟨_, rfl⟩
   have HFM : Hid (fm ≤ 9223372036854775807) := hide (by omega)
   rw [hfm]
   refine (Zs.turn (P' := fun W G => Jn W g3 d1 G (dFailAfter D2 fm) J2) (R := fun e => e = .returned (.tuple #[])) HZ.out (fun G hG => jn_call hG fun F hF => failAfter_c d1 F D2 fm HFM.out _ hF)).mono ?_
   rintro e w9 ⟨rfl, hz, hst⟩
   replace HO := hide (hst [(x, 55, [.pointer (some ⟨d1, 0, none⟩), .pointer (some ⟨g3, 0, none⟩), .slice A n2 c, .slice B m bb, .int .i64 fz, .bool fl, .int .i64 zt, .string sS, .slice Ar nr cr, .int .i64 zu, .bool br]), (b6, 42, [.int .i64 lk, .int .i64 ln, .int .i64 lm, .int .u8 lf, .slice Al ml cl])] (by simp) HO.out)
   replace HZ : Hid (Zs (fun W G => Jn W g3 d1 G (dFailAfter D2 fm) J2) _ _ _ _ _ _ _ _) := hide hz
   clear hst hz
   try clear kx k6
   have kx := HO.out.cells 0 rfl
   have k6 := HO.out.cells 1 rfl
   go_wp2_with (first
    | ((with_reducible refine at_load 32 (.tmp 88) ?_); refine wpList_load_own HO.out rfl 32 (.tmp 88) rfl 0 _ 2 4 _ _ ([.slice A n2 c, .slice B m bb, .int .i64 fz, .bool fl]) _ rfl rfl rfl Tryz.underlying32 rfl (by kernel_rfl) ?_))
   rw [hfm]
   refine (Zs.refD (D' := dFailAfter D2 fm) (keeps_jn g3 d1 (dFailAfter D2 fm) J2) HZ.out (fun F hr hF => failAfter_r F _ D2 fm HFM.out _ hr)).mono ?_
   rintro e w10 ⟨A6, n6, c6, B6, m6, bb6, fz6, fl6, rfl, hb7, hz⟩
   replace HO := hide (HO.out.step hb7)
   replace HZ := hide hz
   unfold rjc at HZ
   clear hz hb7
   clear hfm
   obtain ⟨k2, hk2⟩ : ∃ z : Int, max 0 lk % 2 = z := ⟨_, rfl⟩
   go_wp2_with (first
    | ((with_reducible refine at_store 32 (.tmp 96) ?_); refine wpList_store_own_t HO.out rfl 32 (.tmp 96) (.tmp 94) rfl 0 _ 2 _ _ ([.slice A6 n6 c6, .slice B6 m6 bb6, .int .i64 fz6, .bool fl6]) ([.pointer (some ⟨d1, 0, none⟩), .pointer (some ⟨g3, 0, none⟩), .slice A6 n6 c6, .slice B6 m6 bb6, .int .i64 fz6, .bool fl6, .int .i64 zt, .string sS, .slice Ar nr cr, .int .i64 zu, .bool br]) rfl (.agg ([.slice A6 n6 c6, .slice B6 m6 bb6, .int .i64 fz6, .bool fl6] : List Value).toArray) rfl rfl (fits_agg _) (by simp) rfl (by kernel_rfl) rfl ?_; intro WA2 hO _ ht; replace HZ := hide (HZ.out.put (keeps_jn g3 d1 (dFailAfter D2 fm) J2) (by simp) ht); replace HO := hide hO; clear hO ht; try clear kx k6; have kx := HO.out.cells 0 rfl; have k6 := HO.out.cells 1 rfl)
    | ((with_reducible refine at_store 3 (.tmp 101) ?_); refine Hid.out ?_))
   refine hide ?_
   try rw [hk2]
   refine wpList_store_own_t HO.out rfl 3 (.tmp 101) (.tmp 100) rfl 1 _ 0 _ _ ([.int .i64 k2]) ([.int .i64 k2, .int .i64 ln, .int .i64 lm, .int .u8 lf, .slice Al ml cl]) rfl (.int .i64 k2) rfl rfl (fits_one rfl) (by simp) rfl (by kernel_rfl) rfl ?_
   intro WA3 hO _ ht
   replace HZ := hide (HZ.out.put (keeps_jn g3 d1 (dFailAfter D2 fm) J2) (by simp) ht)
   replace HO := hide hO
   clear hO ht kx k6
   obtain ⟨lo2, hlo2⟩ : ∃ o : POp, o = { lo with kind := k2 } := ⟨_, rfl⟩
   have HK2 : Hid (lo2.kind = k2) := hide (by rw [hlo2])
   have HKK : Hid (lo2.kind = 0 ∨ lo2.kind = 1) := hide (by rw [HK2.out]; omega)
   have HLO2 : Hid (lo2.Ok W) := hide (by rw [hlo2]; exact ⟨HLO.out.n, HLO.out.m, HLO.out.fill, HLO.out.surv⟩)
   have HC2 : Hid (lo2.cells = [.int .i64 k2, .int .i64 ln, .int .i64 lm, .int .u8 lf, .slice Al ml cl]) := hide (by rw [hlo2]; unfold POp.cells; dsimp only; rw [HLN.out, HLM.out, HLF.out, HSV.out])
   clear hlo2 hk2
   have HSD : Hid (Sound (dFailAfter D2 fm)) := hide (sound_fail HL2.out.sound fm HFM.out)
   have HJK : Hid (JOk (dFailAfter D2 fm) J2) := hide ⟨by have := HT16.out; omega, HL2.out.used.1, by have := HR2.out; omega⟩
   have HKP : Hid (Kept 0 (dFailAfter D2 fm) J2) := hide ⟨HSD.out, (fun e => by have h1 : D2.failed = true := e; rw [HL2.out.nf] at h1; cases h1), by have := HT16.out; omega, HL2.out.used.1, by have h1 := HL2.out.used.2; have h2 := HL2.out.halfLe; omega⟩
   try clear kx k6
   have kx := HO.out.cells 0 rfl
   have k6 := HO.out.cells 1 rfl
   go_wp2_with (first
    | ((with_reducible refine at_load 42 (.tmp 6) ?_); refine wpList_load_own HO.out rfl 42 (.tmp 6) rfl 1 _ 0 5 _ _ ([.int .i64 k2, .int .i64 ln, .int .i64 lm, .int .u8 lf, .slice Al ml cl]) _ rfl rfl rfl Tryz.underlying42 rfl (by kernel_rfl) ?_))
   have hA := HZ.out.away
   have HT9 : Hid (∀ W', Away B13 WA3 W' → Sl W' (.slice Ar3 m3 c3) J2.records) := hide (fun W' h => HT.out W' (hA.trans h))
   have HB9 : Hid (Blk WA3 b6 42 ([.int .i64 k2, .int .i64 ln, .int .i64 lm, .int .u8 lf, .slice Al ml cl] : List Value).toArray) := hide (HO.out.blk 1 rfl)
   clear hA HT
   replace HZ := hide (HZ.out.rebase (b6 :: B13) [x] (fun j hj => by rcases List.mem_cons.1 hj with rfl | hj; exact .inr (by simp); exact .inl hj) (fun j hj => .inl (by simp at hj ⊢; exact .inl hj)) (fun j hj hm => by simp at hm; subst hm; rcases List.mem_cons.1 hj with e | hj; exact HNE.out e.symm; exact (HBX.out _ hj).1 rfl))
   have HWW := hide (Ww.of (vc := [.slice A6 n6 c6, .slice B6 m6 bb6, .int .i64 fz6, .bool fl6, .int .i64 zt, .string sS, .slice Ar nr cr, .int .i64 zu, .bool br]) (HO.out.sub (M := [(x, 55, [.pointer (some ⟨d1, 0, none⟩), .pointer (some ⟨g3, 0, none⟩), .slice A6 n6 c6, .slice B6 m6 bb6, .int .i64 fz6, .bool fl6, .int .i64 zt, .string sS, .slice Ar nr cr, .int .i64 zu, .bool br])]) (by simp)) HZ.out)
   clear HO HZ kx k6
   have HST := wstep_c W WA3 (b6 :: B13) x d1 g3 (dFailAfter D2 fm) J2 lo2 WA3 HWW.out HSD.out HJK.out HLO2.out
   rw [HC2.out] at HST
   refine HST.mono ?_
   rintro e w11 ⟨rfl, g4, hw⟩
   clear HST HWW
   have HCL := hide (fun (hc : coin (wStep (dFailAfter D2 fm) J2 lo2).1 sl = false) => crash_last (HL2.out.fail fm HFM.out) lo2 HKK.out (by have := HT16.out; omega) sl hc)
   have HTK : Hid (lo2.kind = 0 → (wStep (dFailAfter D2 fm) J2 lo2).2.turn = J2.turn) := hide (wstep_turn0 _ _ _)
   have HK3 := hide (HKP.out.wstep (by omega) lo2 HLO2.out).1
   generalize hR : wStep (dFailAfter D2 fm) J2 lo2 = R at hw HCL HTK HK3
   obtain ⟨D3, J3⟩ := R
   dsimp only at hw HCL HTK HK3
   clear hR HKP HSD HJK
   obtain ⟨A7, n7, c7, B7, m7, bb7, Ar7, nr7, cr7, hO, hZ⟩ := hw
   have hb := hZ.away
   have hO2 := hO.add b6 42 ([.int .i64 k2, .int .i64 ln, .int .i64 lm, .int .u8 lf, .slice Al ml cl]) (by obtain ⟨S, hS, hx⟩ := hb; exact HB9.out.touch hS (hx b6 (by simp))) HN6.out (by simp; exact HNE.out)
   have HT := hide (fun (W' : World) (h : Away B13 w11 W') => HT9.out W' ((hb.less (fun j hj => by simp [hj])).trans h))
   replace hZ := hZ.rebase B13 [x, b6] (fun j hj => .inl (by simp [hj])) (fun j hj => by simp at hj; rcases hj with rfl | rfl; exact .inl (by simp); exact .inr ⟨by simp, HN6.out⟩) (fun j hj hm => by have := HBX.out j hj; simp at hm; omega)
   clear hO hb HB9 HT9
   unfold wcs rjc at hO2
   unfold rjc at hZ
   generalize D3.fuse = fz7 at hO2 hZ
   generalize D3.failed = fl7 at hO2 hZ
   obtain ⟨zt7, hzt⟩ : ∃ z : Int, (J3.turn : Int) = z := ⟨_, rfl⟩
   rw [hzt] at hO2 hZ
   have HT7 := hide hzt
   generalize J3.state = tt7 at hO2 hZ
   generalize (J3.used : Int) = zu7 at hO2 hZ
   generalize J3.broken = br7 at hO2 hZ
   have HO := hide hO2
   have HZ := hide hZ
   clear hO2 hZ hzt
   try clear kx k6
   have kx := HO.out.cells 0 rfl
   have k6 := HO.out.cells 1 rfl
   go_wp2_with fail
   obtain ⟨Fj, qj, hjr⟩ := HZ.out.jr
   refine (turn_c g4 d1 Fj D3 J3 qj _ hjr).mono ?_
   rintro e wq ⟨rfl, rfl⟩
   clear hjr
   rw [HT7.out]
   by_cases hz7 : zt7 = zt
   ·go_wp2_with fail
    obtain ⟨Fj, qj, hjr⟩ := HZ.out.jr
    refine (records_c g4 d1 Fj D3 J3 qj _ hjr (by have := HK3.out.recs; omega)).mono ?_
    rintro e w12 ⟨v12, rfl, hs12, ho12, hb12⟩
    obtain ⟨Ar4, m4, c4, rfl, hm4, hx3, hx4⟩ := hs12.formN
    have HM4 := hide hm4.out
    replace HO := hide (HO.out.step hb12)
    replace HZ := hide (HZ.out.step (keeps_jn g4 d1 D3 J3) hb12)
    clear hjr hs12 ho12 hb12 hm4 hx3 hx4
    try clear kx k6
    have kx := HO.out.cells 0 rfl
    have k6 := HO.out.cells 1 rfl
    go_wp2_with (first
     | ((with_reducible refine at_load 32 (.tmp 120) ?_); refine wpList_load_own HO.out rfl 32 (.tmp 120) rfl 0 _ 2 4 _ _ ([.slice A7 n7 c7, .slice B7 m7 bb7, .int .i64 fz7, .bool fl7]) _ rfl rfl rfl Tryz.underlying32 rfl (by kernel_rfl) ?_))
    refine (Zs.look (keeps_jn g4 d1 D3 J3) HZ.out (fun F hr => rcoin_c F _ D3 (.slice Av nv cv) sl _ (Rj.rf hr) (HV3.out.step HO.out.below) (by have := HK3.out.sound.few; omega) (by have := HK3.out.sound.top; omega) HK3.out.sound.len) (fun e w' h => h.2)).mono ?_
    rintro e w13 ⟨⟨rfl, hb13⟩, hz⟩
    replace HO := hide (HO.out.step hb13)
    replace HZ := hide hz
    clear hb13 hz
    by_cases hco : coin D3 sl = true
    ·rw [hco]
     go_wp2_with fail
     go_ret
     exact ⟨rfl, HO.out.below⟩
    have hco' : coin D3 sl = false := by simpa using hco
    rw [hco']
    obtain ⟨KJ, D4, hjo, hsay⟩ := HCL.out hco'
    have HJO := hide hjo
    have HSAY := hide hsay
    clear hco hco' hjo hsay HCL
    try clear kx k6
    have kx := HO.out.cells 0 rfl
    have k6 := HO.out.cells 1 rfl
    go_wp2_with fail
    refine (Zs.turnG (P' := fun W G => Jn W g4 d1 G (dCrash D3 sl) J3) (R := fun e => e = .returned (.tuple #[])) HZ.out (fun G hG hlo => jn_callG hG fun F hF hFG => crash_cR d1 F D3 (.slice Av nv cv) sl _ hF (HV3.out.step HO.out.below) (fun hne j hj hm => by have h1 := is_lt HV3.out hne j hj; have := hlo j (hFG j hm); omega))).mono ?_
    rintro e w14 ⟨rfl, hz, hst⟩
    replace HO := hide (hst [(x, 55, [.pointer (some ⟨d1, 0, none⟩), .pointer (some ⟨g4, 0, none⟩), .slice A7 n7 c7, .slice B7 m7 bb7, .int .i64 fz7, .bool fl7, .int .i64 zt7, sv tt7, .slice Ar7 nr7 cr7, .int .i64 zu7, .bool br7]), (b6, 42, [.int .i64 k2, .int .i64 ln, .int .i64 lm, .int .u8 lf, .slice Al ml cl])] (by simp) HO.out)
    replace HZ : Hid (Zs (fun W G => Jn W g4 d1 G (dCrash D3 sl) J3) _ _ _ _ _ _ _ _) := hide hz
    clear hst hz
    have HS4 := hide (sound_crash HK3.out.sound sl).1
    try clear kx k6
    have kx := HO.out.cells 0 rfl
    have k6 := HO.out.cells 1 rfl
    go_wp2_with fail
    replace HZ := hide HZ.out.disk
    refine (Zs.turnE (ι := Nat) (P' := fun g' => fun W G => Jn W g' d1 G D4 KJ) (R := fun g' e => e = .returned (.tuple #[.pointer (some ⟨g', 0, none⟩), .int .i64 0])) HZ.out (fun G hG => ?_)).mono ?_
    ·refine (jopen_c d1 G (dCrash D3 sl) _ hG (by have := HS4.out.few; omega) (by have := HS4.out.top; omega)).mono fun e w' h => ?_
     rw [HJO.out] at h
     obtain ⟨g', he, ht⟩ := (turns_open h).1 rfl
     exact ⟨g', he, ht⟩
    rintro e w15 ⟨g5, rfl, hz, hst⟩
    replace HO := hide (hst [(x, 55, [.pointer (some ⟨d1, 0, none⟩), .pointer (some ⟨g4, 0, none⟩), .slice A7 n7 c7, .slice B7 m7 bb7, .int .i64 fz7, .bool fl7, .int .i64 zt7, sv tt7, .slice Ar7 nr7 cr7, .int .i64 zu7, .bool br7]), (b6, 42, [.int .i64 k2, .int .i64 ln, .int .i64 lm, .int .u8 lf, .slice Al ml cl])] (by simp) HO.out)
    replace HZ : Hid (Zs (fun W G => Jn W g5 d1 G D4 KJ) _ _ _ _ _ _ _ _) := hide hz
    clear hst hz
    try clear kx k6
    have kx := HO.out.cells 0 rfl
    have k6 := HO.out.cells 1 rfl
    go_wp2_with fail
    obtain ⟨sK, hsK⟩ : ∃ S : ByteArray, sv KJ.state = .string S := ⟨_, rfl⟩
    obtain ⟨zK, hzK⟩ : ∃ z : Int, (KJ.turn : Int) = z := ⟨_, rfl⟩
    obtain ⟨sT, hsT⟩ : ∃ S : ByteArray, (⟨(pText lo2).toArray⟩ : ByteArray) = S := ⟨_, rfl⟩
    have HSK := hide hsK
    have HZK := hide hzK
    have HST := hide hsT
    clear hsK hzK hsT
    have HTX : Hid (∀ X : World, Calls Tryz.prog 15 #[.agg ([.int .i64 k2, .int .i64 ln, .int .i64 lm, .int .u8 lf, .slice Al ml cl] : List Value).toArray] X fun e w' => e = .returned (.string sT) ∧ Below X.heap.size X w') := hide (fun X => by
     have h := text_c lo2.kind lo2.n lo2.m lo2.fill HLO2.out.fill HLO2.out.n lo2.sv (is_one HLO2.out.surv) X
     have e : ([.int .i64 lo2.kind, .int .i64 lo2.n, .int .i64 lo2.m, .int .u8 lo2.fill, lo2.sv] : List Value) = [.int .i64 k2, .int .i64 ln, .int .i64 lm, .int .u8 lf, .slice Al ml cl] := HC2.out
     rw [e] at h
     have e2 : (⟨(jText ((max 0 lo2.n) % 400).toNat lo2.fill).toArray⟩ : ByteArray) = sT := HST.out
     rw [e2] at h
     exact h)
    by_cases hst : sK = sS
    ·subst hst
     by_cases htn : zK = zt
     ·subst htn
      have HKR : Hid (KJ.records.length ≤ 200000) := hide (by have := crash_len HSAY.out; have := HR2.out; omega)
      obtain ⟨Fj, qj, hjr⟩ := HZ.out.jr
      refine (state_c g5 d1 Fj D4 KJ qj _ hjr).mono ?_
      rintro e wq ⟨rfl, rfl⟩
      clear hjr
      rw [HSK.out]
      go_wp2_with fail
      obtain ⟨Fj, qj, hjr⟩ := HZ.out.jr
      refine (turn_c g5 d1 Fj D4 KJ qj _ hjr).mono ?_
      rintro e wq ⟨rfl, rfl⟩
      clear hjr
      rw [HZK.out]
      go_wp2_with fail
      obtain ⟨Fj, qj, hjr⟩ := HZ.out.jr
      refine (records_c g5 d1 Fj D4 KJ qj _ hjr (by have := HKR.out; omega)).mono ?_
      rintro e w16 ⟨v16, rfl, hs16, ho16, hb16⟩
      obtain ⟨Ar9, m9, c9, rfl, hm9, hx3, hx4⟩ := hs16.formN
      replace HO := hide (HO.out.step hb16)
      replace HZ := hide (HZ.out.step (keeps_jn g5 d1 D4 KJ) hb16)
      have HSr := hide hs16
      clear hjr hs16 ho16 hb16 hm9 hx3 hx4
      go_wp2_with fail
      refine (same_c _ _ KJ.records J2.records _ HSr.out (HT.out _ HZ.out.away) (by have := HKR.out; omega)).mono ?_
      rintro e w17 ⟨rfl, hb17⟩
      replace HO := hide (HO.out.step hb17)
      replace HZ := hide (HZ.out.step (keeps_jn g5 d1 D4 KJ) hb17)
      clear hb17 HSr
      obtain ⟨bs, hbs⟩ : ∃ x, decide (KJ.records = J2.records) = x := ⟨_, rfl⟩
      rw [hbs]
      have HBS := hide hbs
      clear hbs
      cases bs with
      | true =>
       go_wp2_with fail
       refine wp_region_held_drew (S := fun W => (∀ j, W.cell? ⟨b6, j, none⟩ = ([.int .i64 k2, .int .i64 ln, .int .i64 lm, .int .u8 lf, .slice Al ml cl] : List Value)[j]?)) (by kernel_rfl) (HO.out.drew.cells 1 rfl) (fun hS0 => ?_)
       replace HO := hide HO.out.drew
       replace HZ := hide (HZ.out.step (keeps_jn g5 d1 D4 KJ) (below_drew _))
       have HB : Hid (Below w17.drew.heap.size w17.drew w17.drew) := hide (Below.refl _ _)
       refine tk 0 ?_
       refine tk 2 ?_
       refine' rt_2 (I := fun (bE : Nat) (vr : Value) W => (Below w17.drew.heap.size w17.drew W) ∧ (Sl W vr KJ.records) ∧ (Rs W w17.drew.heap.size (.slice (some ⟨bE, 0, none⟩) 0 0) []) ∧ (KJ.records ≠ [] → ∀ j, vr.ownBlock = some j → ((.slice (some ⟨bE, 0, none⟩) 0 0) : Value).ownBlock ≠ some j)) (fun gtTerst => ?_) ?_
       rotate_left
       ·refine tr1 1 fun K hK => ?_
        go_simp
        obtain ⟨Fj, qj, hjr⟩ := (HZ.out.step (keeps_jn g5 d1 D4 KJ) HB.out).jr
        refine (state_c g5 d1 Fj D4 KJ qj _ hjr).mono ?_
        rintro e wq ⟨rfl, rfl⟩
        clear hjr
        rw [HSK.out]
        refine hK.out _ _ ((HO.out.step HB.out).cells 1 rfl) (fun _ => ?_)
        clear hK K
        try simp only [Act.put, qa, qb, qc, qd, qe, qf]
        refine tk 3 ?_
        refine tk 4 ?_
        refine tk 5 ?_
        refine tk 7 ?_
        refine tr1 6 fun K hK => ?_
        go_simp
        obtain ⟨Fj, qj, hjr⟩ := (HZ.out.step (keeps_jn g5 d1 D4 KJ) HB.out).jr
        refine (turn_c g5 d1 Fj D4 KJ qj _ hjr).mono ?_
        rintro e wq ⟨rfl, rfl⟩
        clear hjr
        rw [HZK.out]
        refine hK.out _ _ ((HO.out.step HB.out).cells 1 rfl) (fun _ => ?_)
        clear hK K
        try simp only [Act.put, qa, qb, qc, qd, qe, qf]
        refine tk 8 ?_
        refine tk 9 ?_
        refine tk 10 ?_
        refine tk 11 ?_
        refine tk 14 ?_
        refine ty 16 (.agg ([.int .i64 k2, .int .i64 ln, .int .i64 lm, .int .u8 lf, .slice Al ml cl] : List Value).toArray) rfl (yieldsIf_load rfl 42 (.tmp 6) rfl b6 0 5 42 ([.int .i64 k2, .int .i64 ln, .int .i64 lm, .int .u8 lf, .slice Al ml cl]) ([.int .i64 k2, .int .i64 ln, .int .i64 lm, .int .u8 lf, .slice Al ml cl]) _ (fun w hw => hw) (take_all rfl) rfl Tryz.underlying42 rfl (by kernel_rfl)) ?_
        refine wpAnyH_ready (rs := [12, 13]) (by kernel_rfl) (by simp) ?_
        refine AllReadyH.cons rfl (fun K hK => ?_) (AllReadyH.cons rfl (fun K hK => ?_) (AllReadyH.nil))
        ·go_simp
         obtain ⟨Fj, qj, hjr⟩ := (HZ.out.step (keeps_jn g5 d1 D4 KJ) HB.out).jr
         refine (records_c g5 d1 Fj D4 KJ qj _ hjr (by have := HKR.out; omega)).mono ?_
         rintro e w18 ⟨vr, rfl, hs16, ho16, hb16⟩
         replace HB := hide (Below.trans_up HB.out hb16)
         have HSr := hide hs16
         clear hjr hs16 ho16 hb16
         refine hK.out _ _ ((HO.out.step HB.out).cells 1 rfl) (fun _ => ?_)
         clear hK K
         try simp only [Act.put, qa, qb, qc, qd, qe, qf]
         refine tr1 13 fun K hK => ?_
         refine step_emptyS (by rfl) 49 9 rfl Tryz.underlying49 (by kernel_rfl) ?_
         intro WE bE hE hW
         have HRN : Hid (KJ.records ≠ [] → ∀ j, vr.ownBlock = some j → (.slice (some ⟨bE, 0, none⟩) 0 0 : Value).ownBlock ≠ some j) := hide (fun hne j hj e => by have h1 := sl_lt HSr.out hne j hj; injection e with e; have e : bE = j := e; omega)
         have he := rs_empty hE hW HB.out.size
         have hbe := below_of_alloc hW
         replace HSr := hide (HSr.out.step hbe)
         replace HB := hide (Below.trans_up HB.out hbe)
         have HE := hide he
         clear he hbe hW hE
         refine hK.out _ _ ((HO.out.step HB.out).cells 1 rfl) (fun _ => ?_)
         clear hK K
         try simp only [Act.put, qa, qb, qc, qd, qe, qf]
         exact gtTerst bE vr _ ⟨HB.out, HSr.out, HE.out, HRN.out⟩
        ·refine step_emptyS (by rfl) 49 9 rfl Tryz.underlying49 (by kernel_rfl) ?_
         intro WE bE hE hW
         have he := rs_empty hE hW HB.out.size
         have hbe := below_of_alloc hW
         replace HB := hide (Below.trans_up HB.out hbe)
         have HE := hide he
         clear he hbe hW hE
         refine hK.out _ _ ((HO.out.step HB.out).cells 1 rfl) (fun _ => ?_)
         clear hK K
         try simp only [Act.put, qa, qb, qc, qd, qe, qf]
         refine tr1 12 fun K hK => ?_
         go_simp
         obtain ⟨Fj, qj, hjr⟩ := (HZ.out.step (keeps_jn g5 d1 D4 KJ) HB.out).jr
         refine (records_c g5 d1 Fj D4 KJ qj _ hjr (by have := HKR.out; omega)).mono ?_
         rintro e w18 ⟨vr, rfl, hs16, ho16, hb16⟩
         have HRN : Hid (KJ.records ≠ [] → ∀ j, vr.ownBlock = some j → (.slice (some ⟨bE, 0, none⟩) 0 0 : Value).ownBlock ≠ some j) := hide (fun _ j hj e => by have h1 := ho16 j hj; have h2 := (HE.out.lt j e).2; omega)
         replace HE := hide (HE.out.step hb16)
         replace HB := hide (Below.trans_up HB.out hb16)
         have HSr := hide hs16
         clear hjr hs16 ho16 hb16
         refine hK.out _ _ ((HO.out.step HB.out).cells 1 rfl) (fun _ => ?_)
         clear hK K
         try simp only [Act.put, qa, qb, qc, qd, qe, qf]
         exact gtTerst bE vr _ ⟨HB.out, HSr.out, HE.out, HRN.out⟩
       ·intro bE vr WT hI
        obtain ⟨hHB, hHSr, hHE, hHRN⟩ := hI
        have HB := hide hHB
        have HSr := hide hHSr
        have HE := hide hHE
        have HRN := hide hHRN
        clear hHB hHSr hHE hHRN
        have hSS : (fun W => (∀ j, W.cell? ⟨b6, j, none⟩ = ([.int .i64 k2, .int .i64 ln, .int .i64 lm, .int .u8 lf, .slice Al ml cl] : List Value)[j]?)) WT := (HO.out.step HB.out).cells 1 rfl
        refine tr1 15 fun K hK => ?_
        refine step_append_sl (by rfl) (.tmp 169) (.tmp 170) rfl w17.drew.heap.size (v := .slice (some ⟨bE, 0, none⟩) 0 0) (vx := .slice Ar3 m3 c3) (l := []) (m := J2.records) rfl HE.out rfl (HT.out _ (HZ.out.step (keeps_jn g5 d1 D4 KJ) HB.out).away) (by have := HR2.out; simp; omega) HB.out.size ?_
        intro va WA9 how hg hat
        have HRN2 : Hid (KJ.records ≠ [] → ∀ j, vr.ownBlock = some j → va.ownBlock ≠ some j) := hide (fun hne j hj e => by rcases hat with h | h; exact HRN.out hne j hj (by rw [← h]; exact e); have h1 := sl_lt HSr.out hne j hj; rw [h] at e; injection e with e; omega)
        replace HSr := hide (HSr.out.touch (grown_touchG hg) (fun hne j hj hm => HRN.out hne j hj (by simpa using hm)))
        replace HB := hide (HB.out.grown hg HB.out.size (fun j hj => (HE.out.lt j hj).1))
        have HRN := HRN2
        have HE : Hid (Rs WA9 w17.drew.heap.size va J2.records) := hide how
        clear how hg hat HRN2
        refine hK.out _ _ ((HO.out.step HB.out).cells 1 rfl) (fun _ => ?_)
        clear hK K
        try simp only [Act.put, qa, qb, qc, qd, qe, qf]
        refine tr1 17 fun K hK => ?_
        go_simp
        refine (HTX.out _).mono ?_
        rintro e w19 ⟨rfl, hb17⟩
        replace HSr := hide (HSr.out.step hb17)
        replace HE := hide (HE.out.step hb17)
        replace HB := hide (Below.trans_up HB.out hb17)
        clear hb17
        refine hK.out _ _ ((HO.out.step HB.out).cells 1 rfl) (fun _ => ?_)
        clear hK K
        try simp only [Act.put, qa, qb, qc, qd, qe, qf]
        refine tr1 18 fun K hK => ?_
        refine step_slice_own_n (Own.nil _ [] (by simp)) (by rfl) 49 9 1 _ rfl Tryz.underlying49 [.string sT] (by kernel_rfl) ?_
        intro WY bY hbY hoY hbel
        have hy : Sl WY (.slice (some ⟨bY, 0, none⟩) 1 1) [pText lo2] := ⟨_, _, rfl, Nat.le_refl _, by unfold maxLen; decide, fun _ => ⟨bY, 0, rfl, (hoY.blk 0 rfl).lt, fun j hj => by have e : j = 0 := (by simpa using hj); subst e; rw [(hoY.blk 0 rfl).cell]; have := HST.out; simp [sv, this]⟩⟩
        replace HSr := hide (HSr.out.step hbel)
        replace HE := hide (HE.out.step hbel)
        replace HB := hide (Below.trans_up HB.out hbel)
        have HY := hide hy
        clear hy hbel hoY hbY
        refine hK.out _ _ ((HO.out.step HB.out).cells 1 rfl) (fun _ => ?_)
        clear hK K
        try simp only [Act.put, qa, qb, qc, qd, qe, qf]
        refine tr1 19 fun K hK => ?_
        refine step_append_sl (by rfl) (.tmp 171) (.tmp 174) rfl w17.drew.heap.size (v := va) (vx := .slice (some ⟨bY, 0, none⟩) 1 1) (l := J2.records) (m := [pText lo2]) rfl HE.out rfl HY.out (by have := HR2.out; simp; omega) HB.out.size ?_
        intro vb WB9 how hg hat
        have HRN2 : Hid (KJ.records ≠ [] → ∀ j, vr.ownBlock = some j → vb.ownBlock ≠ some j) := hide (fun hne j hj e => by rcases hat with h | h; exact HRN.out hne j hj (by rw [← h]; exact e); have h1 := sl_lt HSr.out hne j hj; rw [h] at e; injection e with e; omega)
        replace HSr := hide (HSr.out.touch (grown_touchG hg) (fun hne j hj hm => HRN.out hne j hj (by simpa using hm)))
        replace HB := hide (HB.out.grown hg HB.out.size (fun j hj => (HE.out.lt j hj).1))
        have HRN := HRN2
        have HE : Hid (Rs WB9 w17.drew.heap.size vb (J2.records ++ [pText lo2])) := hide how
        clear how hg hat HRN2
        refine hK.out _ _ ((HO.out.step HB.out).cells 1 rfl) (fun _ => ?_)
        clear hK K
        try simp only [Act.put, qa, qb, qc, qd, qe, qf]
        refine tr1 20 fun K hK => ?_
        go_simp
        refine (same_c vr vb KJ.records (J2.records ++ [pText lo2]) _ HSr.out HE.out.sl (by have := HKR.out; omega)).mono ?_
        rintro e w20 ⟨rfl, hb17⟩
        replace HSr := hide (HSr.out.step hb17)
        replace HE := hide (HE.out.step hb17)
        replace HB := hide (Below.trans_up HB.out hb17)
        clear hb17
        refine hK.out _ _ ((HO.out.step HB.out).cells 1 rfl) (fun _ => ?_)
        clear hK K
        try simp only [Act.put, qa, qb, qc, qd, qe, qf]
        refine tk 21 ?_
        refine tk 22 ?_
        refine wpAnyH_done (by kernel_rfl) ?_ _
        clear hS0
        replace HO := hide (HO.out.step HB.out)
        replace HZ := hide (HZ.out.step (keeps_jn g5 d1 D4 KJ) HB.out)
        clear HB HSr HE HRN
        have hrc : KJ.records = J2.records := by simpa using HBS.out
        have hrd : J3.records = J2.records := by rcases crash_c_ HSAY.out HKK.out HK2.out HT2.out HZK.out with ⟨_, h⟩ | ⟨_, _, h⟩; have e := congrArg List.length (hrc.symm.trans h); simp at e; exact h
        have h2 : decide (KJ.records = J2.records ++ [pText lo2]) = false := by rw [hrc]; simp
        rw [h2]
        obtain rfl : m4 = m3 := by rw [HM4.out, HM3.out, hrd]
        have hk01 : k2 = 0 ∨ k2 = 1 := by have h1 := HKK.out; have h3 := HK2.out; omega
        clear h2 hrc hrd
        rcases hk01 with rfl | rfl
        ·try clear kx k6
         have kx := HO.out.cells 0 rfl
         have k6 := HO.out.cells 1 rfl
         go_wp2_with fail
         go_ret
         exact ⟨rfl, HO.out.below⟩
        ·try clear kx k6
         have kx := HO.out.cells 0 rfl
         have k6 := HO.out.cells 1 rfl
         go_wp2_with fail
         have HZ1 : Hid (IntKind.i64.wrap (zK + 1) = zK + 1) := hide (IntWalk.i64_in _ (by have := HT16.out; have := HT2.out; omega))
         have hw1 := HZ1.out
         have hzq : (zK == zK + 1) = false := by simp <;> omega
         by_cases hsT : sK = sT
         ·subst hsT
          refine wp_region_held_drew (S := fun W => (∀ j, W.cell? ⟨b6, j, none⟩ = ([.int .i64 1, .int .i64 ln, .int .i64 lm, .int .u8 lf, .slice Al ml cl] : List Value)[j]?)) (by kernel_rfl) (HO.out.drew.cells 1 rfl) (fun hS0 => ?_)
          replace HO := hide HO.out.drew
          replace HZ := hide (HZ.out.step (keeps_jn g5 d1 D4 KJ) (below_drew _))
          refine tk 0 ?_
          refine ty 2 (.agg ([.int .i64 1, .int .i64 ln, .int .i64 lm, .int .u8 lf, .slice Al ml cl] : List Value).toArray) rfl (yieldsIf_load rfl 42 (.tmp 6) rfl b6 0 5 42 ([.int .i64 1, .int .i64 ln, .int .i64 lm, .int .u8 lf, .slice Al ml cl]) ([.int .i64 1, .int .i64 ln, .int .i64 lm, .int .u8 lf, .slice Al ml cl]) _ (fun w hw => hw) (take_all rfl) rfl Tryz.underlying42 rfl (by kernel_rfl)) ?_
          refine tr1 1 fun K hK => ?_
          go_simp
          obtain ⟨Fj, qj, hjr⟩ := HZ.out.jr
          refine (state_c g5 d1 Fj D4 KJ qj _ hjr).mono ?_
          rintro e wq ⟨rfl, rfl⟩
          clear hjr
          rw [HSK.out]
          refine hK.out _ _ (HO.out.cells 1 rfl) (fun hS2 => ?_)
          clear hK K
          try simp only [Act.put, qa, qb, qc, qd, qe, qf]
          refine tr1 3 fun K hK => ?_
          go_simp
          refine (HTX.out _).mono ?_
          rintro e w17 ⟨rfl, hb17⟩
          replace HO := hide (HO.out.step hb17)
          replace HZ := hide (HZ.out.step (keeps_jn g5 d1 D4 KJ) hb17)
          clear hb17
          refine hK.out _ _ (HO.out.cells 1 rfl) (fun hS3 => ?_)
          clear hK K
          try simp only [Act.put, qa, qb, qc, qd, qe, qf]
          refine tk 4 ?_
          refine tk 5 ?_
          refine tk 6 ?_
          refine tk 8 ?_
          refine tk 9 ?_
          refine tr1 7 fun K hK => ?_
          go_simp
          obtain ⟨Fj, qj, hjr⟩ := HZ.out.jr
          refine (turn_c g5 d1 Fj D4 KJ qj _ hjr).mono ?_
          rintro e wq ⟨rfl, rfl⟩
          clear hjr
          rw [HZK.out]
          refine hK.out _ _ (HO.out.cells 1 rfl) (fun hS9 => ?_)
          clear hK K
          try simp only [Act.put, qa, qb, qc, qd, qe, qf]
          refine tk 10 ?_
          refine tk 11 ?_
          refine tk 12 ?_
          refine ty 13 (undef) rfl (Or.inr ⟨by rfl, rfl⟩) ?_
          refine ty 14 (undef) rfl (Or.inr ⟨by rfl, rfl⟩) ?_
          refine ty 15 (undef) rfl (Or.inr ⟨by rfl, rfl⟩) ?_
          refine ty 16 (undef) rfl (Or.inr ⟨by rfl, rfl⟩) ?_
          refine tk 17 ?_
          refine tk 18 ?_
          refine wpAnyH_done (by kernel_rfl) ?_ _
          clear hS0
          go_wp2_with fail
          go_ret
          exact ⟨rfl, HO.out.below⟩
         ·have hq1 : (sK.data == sT.data) = false := by simpa using fun e => hsT (ByteArray.ext e)
          have hq2 : (sK.toList == sT.toList) = false := by simpa [ByteArray.toList_eq, ← Array.toList_inj] using hq1
          refine wp_region_held_drew (S := fun W => (∀ j, W.cell? ⟨b6, j, none⟩ = ([.int .i64 1, .int .i64 ln, .int .i64 lm, .int .u8 lf, .slice Al ml cl] : List Value)[j]?)) (by kernel_rfl) (HO.out.drew.cells 1 rfl) (fun hS0 => ?_)
          replace HO := hide HO.out.drew
          replace HZ := hide (HZ.out.step (keeps_jn g5 d1 D4 KJ) (below_drew _))
          refine tk 0 ?_
          refine ty 2 (.agg ([.int .i64 1, .int .i64 ln, .int .i64 lm, .int .u8 lf, .slice Al ml cl] : List Value).toArray) rfl (yieldsIf_load rfl 42 (.tmp 6) rfl b6 0 5 42 ([.int .i64 1, .int .i64 ln, .int .i64 lm, .int .u8 lf, .slice Al ml cl]) ([.int .i64 1, .int .i64 ln, .int .i64 lm, .int .u8 lf, .slice Al ml cl]) _ (fun w hw => hw) (take_all rfl) rfl Tryz.underlying42 rfl (by kernel_rfl)) ?_
          refine tr1 1 fun K hK => ?_
          go_simp
          obtain ⟨Fj, qj, hjr⟩ := HZ.out.jr
          refine (state_c g5 d1 Fj D4 KJ qj _ hjr).mono ?_
          rintro e wq ⟨rfl, rfl⟩
          clear hjr
          rw [HSK.out]
          refine hK.out _ _ (HO.out.cells 1 rfl) (fun hS2 => ?_)
          clear hK K
          try simp only [Act.put, qa, qb, qc, qd, qe, qf]
          refine tr1 3 fun K hK => ?_
          go_simp
          refine (HTX.out _).mono ?_
          rintro e w17 ⟨rfl, hb17⟩
          replace HO := hide (HO.out.step hb17)
          replace HZ := hide (HZ.out.step (keeps_jn g5 d1 D4 KJ) hb17)
          clear hb17
          refine hK.out _ _ (HO.out.cells 1 rfl) (fun hS3 => ?_)
          clear hK K
          try simp only [Act.put, qa, qb, qc, qd, qe, qf]
          refine tk 4 ?_
          refine tk 5 ?_
          refine ty 6 (undef) rfl (Or.inr ⟨by rfl, rfl⟩) ?_
          refine ty 7 (undef) rfl (Or.inr ⟨by rfl, rfl⟩) ?_
          refine ty 8 (undef) rfl (Or.inr ⟨by rfl, rfl⟩) ?_
          refine ty 9 (undef) rfl (Or.inr ⟨by rfl, rfl⟩) ?_
          refine ty 10 (undef) rfl (Or.inr ⟨by rfl, rfl⟩) ?_
          refine tk 11 ?_
          refine tk 12 ?_
          refine ty 13 (undef) rfl (Or.inr ⟨by rfl, rfl⟩) ?_
          refine ty 14 (undef) rfl (Or.inr ⟨by rfl, rfl⟩) ?_
          refine ty 15 (undef) rfl (Or.inr ⟨by rfl, rfl⟩) ?_
          refine ty 16 (undef) rfl (Or.inr ⟨by rfl, rfl⟩) ?_
          refine tk 17 ?_
          refine tk 18 ?_
          refine wpAnyH_done (by kernel_rfl) ?_ _
          clear hS0
          go_wp2_with fail
          go_ret
          exact ⟨rfl, HO.out.below⟩
      | false =>
       go_wp2_with fail
       refine wp_region_held_drew (S := fun W => (∀ j, W.cell? ⟨b6, j, none⟩ = ([.int .i64 k2, .int .i64 ln, .int .i64 lm, .int .u8 lf, .slice Al ml cl] : List Value)[j]?)) (by kernel_rfl) (HO.out.drew.cells 1 rfl) (fun hS0 => ?_)
       replace HO := hide HO.out.drew
       replace HZ := hide (HZ.out.step (keeps_jn g5 d1 D4 KJ) (below_drew _))
       have HB : Hid (Below w17.drew.heap.size w17.drew w17.drew) := hide (Below.refl _ _)
       refine tk 0 ?_
       refine tk 2 ?_
       refine' rt_2 (I := fun (bE : Nat) (vr : Value) W => (Below w17.drew.heap.size w17.drew W) ∧ (Sl W vr KJ.records) ∧ (Rs W w17.drew.heap.size (.slice (some ⟨bE, 0, none⟩) 0 0) []) ∧ (KJ.records ≠ [] → ∀ j, vr.ownBlock = some j → ((.slice (some ⟨bE, 0, none⟩) 0 0) : Value).ownBlock ≠ some j)) (fun gfTerst => ?_) ?_
       rotate_left
       ·refine tr1 1 fun K hK => ?_
        go_simp
        obtain ⟨Fj, qj, hjr⟩ := (HZ.out.step (keeps_jn g5 d1 D4 KJ) HB.out).jr
        refine (state_c g5 d1 Fj D4 KJ qj _ hjr).mono ?_
        rintro e wq ⟨rfl, rfl⟩
        clear hjr
        rw [HSK.out]
        refine hK.out _ _ ((HO.out.step HB.out).cells 1 rfl) (fun _ => ?_)
        clear hK K
        try simp only [Act.put, qa, qb, qc, qd, qe, qf]
        refine tk 3 ?_
        refine tk 4 ?_
        refine tk 5 ?_
        refine tk 7 ?_
        refine tr1 6 fun K hK => ?_
        go_simp
        obtain ⟨Fj, qj, hjr⟩ := (HZ.out.step (keeps_jn g5 d1 D4 KJ) HB.out).jr
        refine (turn_c g5 d1 Fj D4 KJ qj _ hjr).mono ?_
        rintro e wq ⟨rfl, rfl⟩
        clear hjr
        rw [HZK.out]
        refine hK.out _ _ ((HO.out.step HB.out).cells 1 rfl) (fun _ => ?_)
        clear hK K
        try simp only [Act.put, qa, qb, qc, qd, qe, qf]
        refine tk 8 ?_
        refine tk 9 ?_
        refine tk 10 ?_
        refine tk 11 ?_
        refine tk 14 ?_
        refine ty 16 (.agg ([.int .i64 k2, .int .i64 ln, .int .i64 lm, .int .u8 lf, .slice Al ml cl] : List Value).toArray) rfl (yieldsIf_load rfl 42 (.tmp 6) rfl b6 0 5 42 ([.int .i64 k2, .int .i64 ln, .int .i64 lm, .int .u8 lf, .slice Al ml cl]) ([.int .i64 k2, .int .i64 ln, .int .i64 lm, .int .u8 lf, .slice Al ml cl]) _ (fun w hw => hw) (take_all rfl) rfl Tryz.underlying42 rfl (by kernel_rfl)) ?_
        refine wpAnyH_ready (rs := [12, 13]) (by kernel_rfl) (by simp) ?_
        refine AllReadyH.cons rfl (fun K hK => ?_) (AllReadyH.cons rfl (fun K hK => ?_) (AllReadyH.nil))
        ·go_simp
         obtain ⟨Fj, qj, hjr⟩ := (HZ.out.step (keeps_jn g5 d1 D4 KJ) HB.out).jr
         refine (records_c g5 d1 Fj D4 KJ qj _ hjr (by have := HKR.out; omega)).mono ?_
         rintro e w18 ⟨vr, rfl, hs16, ho16, hb16⟩
         replace HB := hide (Below.trans_up HB.out hb16)
         have HSr := hide hs16
         clear hjr hs16 ho16 hb16
         refine hK.out _ _ ((HO.out.step HB.out).cells 1 rfl) (fun _ => ?_)
         clear hK K
         try simp only [Act.put, qa, qb, qc, qd, qe, qf]
         refine tr1 13 fun K hK => ?_
         refine step_emptyS (by rfl) 49 9 rfl Tryz.underlying49 (by kernel_rfl) ?_
         intro WE bE hE hW
         have HRN : Hid (KJ.records ≠ [] → ∀ j, vr.ownBlock = some j → (.slice (some ⟨bE, 0, none⟩) 0 0 : Value).ownBlock ≠ some j) := hide (fun hne j hj e => by have h1 := sl_lt HSr.out hne j hj; injection e with e; have e : bE = j := e; omega)
         have he := rs_empty hE hW HB.out.size
         have hbe := below_of_alloc hW
         replace HSr := hide (HSr.out.step hbe)
         replace HB := hide (Below.trans_up HB.out hbe)
         have HE := hide he
         clear he hbe hW hE
         refine hK.out _ _ ((HO.out.step HB.out).cells 1 rfl) (fun _ => ?_)
         clear hK K
         try simp only [Act.put, qa, qb, qc, qd, qe, qf]
         exact gfTerst bE vr _ ⟨HB.out, HSr.out, HE.out, HRN.out⟩
        ·refine step_emptyS (by rfl) 49 9 rfl Tryz.underlying49 (by kernel_rfl) ?_
         intro WE bE hE hW
         have he := rs_empty hE hW HB.out.size
         have hbe := below_of_alloc hW
         replace HB := hide (Below.trans_up HB.out hbe)
         have HE := hide he
         clear he hbe hW hE
         refine hK.out _ _ ((HO.out.step HB.out).cells 1 rfl) (fun _ => ?_)
         clear hK K
         try simp only [Act.put, qa, qb, qc, qd, qe, qf]
         refine tr1 12 fun K hK => ?_
         go_simp
         obtain ⟨Fj, qj, hjr⟩ := (HZ.out.step (keeps_jn g5 d1 D4 KJ) HB.out).jr
         refine (records_c g5 d1 Fj D4 KJ qj _ hjr (by have := HKR.out; omega)).mono ?_
         rintro e w18 ⟨vr, rfl, hs16, ho16, hb16⟩
         have HRN : Hid (KJ.records ≠ [] → ∀ j, vr.ownBlock = some j → (.slice (some ⟨bE, 0, none⟩) 0 0 : Value).ownBlock ≠ some j) := hide (fun _ j hj e => by have h1 := ho16 j hj; have h2 := (HE.out.lt j e).2; omega)
         replace HE := hide (HE.out.step hb16)
         replace HB := hide (Below.trans_up HB.out hb16)
         have HSr := hide hs16
         clear hjr hs16 ho16 hb16
         refine hK.out _ _ ((HO.out.step HB.out).cells 1 rfl) (fun _ => ?_)
         clear hK K
         try simp only [Act.put, qa, qb, qc, qd, qe, qf]
         exact gfTerst bE vr _ ⟨HB.out, HSr.out, HE.out, HRN.out⟩
       ·intro bE vr WT hI
        obtain ⟨hHB, hHSr, hHE, hHRN⟩ := hI
        have HB := hide hHB
        have HSr := hide hHSr
        have HE := hide hHE
        have HRN := hide hHRN
        clear hHB hHSr hHE hHRN
        have hSS : (fun W => (∀ j, W.cell? ⟨b6, j, none⟩ = ([.int .i64 k2, .int .i64 ln, .int .i64 lm, .int .u8 lf, .slice Al ml cl] : List Value)[j]?)) WT := (HO.out.step HB.out).cells 1 rfl
        refine tr1 15 fun K hK => ?_
        refine step_append_sl (by rfl) (.tmp 169) (.tmp 170) rfl w17.drew.heap.size (v := .slice (some ⟨bE, 0, none⟩) 0 0) (vx := .slice Ar3 m3 c3) (l := []) (m := J2.records) rfl HE.out rfl (HT.out _ (HZ.out.step (keeps_jn g5 d1 D4 KJ) HB.out).away) (by have := HR2.out; simp; omega) HB.out.size ?_
        intro va WA9 how hg hat
        have HRN2 : Hid (KJ.records ≠ [] → ∀ j, vr.ownBlock = some j → va.ownBlock ≠ some j) := hide (fun hne j hj e => by rcases hat with h | h; exact HRN.out hne j hj (by rw [← h]; exact e); have h1 := sl_lt HSr.out hne j hj; rw [h] at e; injection e with e; omega)
        replace HSr := hide (HSr.out.touch (grown_touchG hg) (fun hne j hj hm => HRN.out hne j hj (by simpa using hm)))
        replace HB := hide (HB.out.grown hg HB.out.size (fun j hj => (HE.out.lt j hj).1))
        have HRN := HRN2
        have HE : Hid (Rs WA9 w17.drew.heap.size va J2.records) := hide how
        clear how hg hat HRN2
        refine hK.out _ _ ((HO.out.step HB.out).cells 1 rfl) (fun _ => ?_)
        clear hK K
        try simp only [Act.put, qa, qb, qc, qd, qe, qf]
        refine tr1 17 fun K hK => ?_
        go_simp
        refine (HTX.out _).mono ?_
        rintro e w19 ⟨rfl, hb17⟩
        replace HSr := hide (HSr.out.step hb17)
        replace HE := hide (HE.out.step hb17)
        replace HB := hide (Below.trans_up HB.out hb17)
        clear hb17
        refine hK.out _ _ ((HO.out.step HB.out).cells 1 rfl) (fun _ => ?_)
        clear hK K
        try simp only [Act.put, qa, qb, qc, qd, qe, qf]
        refine tr1 18 fun K hK => ?_
        refine step_slice_own_n (Own.nil _ [] (by simp)) (by rfl) 49 9 1 _ rfl Tryz.underlying49 [.string sT] (by kernel_rfl) ?_
        intro WY bY hbY hoY hbel
        have hy : Sl WY (.slice (some ⟨bY, 0, none⟩) 1 1) [pText lo2] := ⟨_, _, rfl, Nat.le_refl _, by unfold maxLen; decide, fun _ => ⟨bY, 0, rfl, (hoY.blk 0 rfl).lt, fun j hj => by have e : j = 0 := (by simpa using hj); subst e; rw [(hoY.blk 0 rfl).cell]; have := HST.out; simp [sv, this]⟩⟩
        replace HSr := hide (HSr.out.step hbel)
        replace HE := hide (HE.out.step hbel)
        replace HB := hide (Below.trans_up HB.out hbel)
        have HY := hide hy
        clear hy hbel hoY hbY
        refine hK.out _ _ ((HO.out.step HB.out).cells 1 rfl) (fun _ => ?_)
        clear hK K
        try simp only [Act.put, qa, qb, qc, qd, qe, qf]
        refine tr1 19 fun K hK => ?_
        refine step_append_sl (by rfl) (.tmp 171) (.tmp 174) rfl w17.drew.heap.size (v := va) (vx := .slice (some ⟨bY, 0, none⟩) 1 1) (l := J2.records) (m := [pText lo2]) rfl HE.out rfl HY.out (by have := HR2.out; simp; omega) HB.out.size ?_
        intro vb WB9 how hg hat
        have HRN2 : Hid (KJ.records ≠ [] → ∀ j, vr.ownBlock = some j → vb.ownBlock ≠ some j) := hide (fun hne j hj e => by rcases hat with h | h; exact HRN.out hne j hj (by rw [← h]; exact e); have h1 := sl_lt HSr.out hne j hj; rw [h] at e; injection e with e; omega)
        replace HSr := hide (HSr.out.touch (grown_touchG hg) (fun hne j hj hm => HRN.out hne j hj (by simpa using hm)))
        replace HB := hide (HB.out.grown hg HB.out.size (fun j hj => (HE.out.lt j hj).1))
        have HRN := HRN2
        have HE : Hid (Rs WB9 w17.drew.heap.size vb (J2.records ++ [pText lo2])) := hide how
        clear how hg hat HRN2
        refine hK.out _ _ ((HO.out.step HB.out).cells 1 rfl) (fun _ => ?_)
        clear hK K
        try simp only [Act.put, qa, qb, qc, qd, qe, qf]
        refine tr1 20 fun K hK => ?_
        go_simp
        refine (same_c vr vb KJ.records (J2.records ++ [pText lo2]) _ HSr.out HE.out.sl (by have := HKR.out; omega)).mono ?_
        rintro e w20 ⟨rfl, hb17⟩
        replace HSr := hide (HSr.out.step hb17)
        replace HE := hide (HE.out.step hb17)
        replace HB := hide (Below.trans_up HB.out hb17)
        clear hb17
        refine hK.out _ _ ((HO.out.step HB.out).cells 1 rfl) (fun _ => ?_)
        clear hK K
        try simp only [Act.put, qa, qb, qc, qd, qe, qf]
        refine tk 21 ?_
        refine tk 22 ?_
        refine wpAnyH_done (by kernel_rfl) ?_ _
        clear hS0
        replace HO := hide (HO.out.step HB.out)
        replace HZ := hide (HZ.out.step (keeps_jn g5 d1 D4 KJ) HB.out)
        clear HB HSr HE HRN
        have hrc : k2 = 0 ∧ KJ.records = J2.records ++ [pText lo2] := by rcases crash_c_ HSAY.out HKK.out HK2.out HT2.out HZK.out with h | ⟨h, _⟩; exact h; have := HBS.out; simp [h] at this
        obtain ⟨rfl, hre⟩ := hrc
        have h2 : decide (KJ.records = J2.records ++ [pText lo2]) = true := by simp [hre]
        rw [h2]
        clear h2 hre
        try clear kx k6
        have kx := HO.out.cells 0 rfl
        have k6 := HO.out.cells 1 rfl
        go_wp2_with fail
        go_ret
        exact ⟨rfl, HO.out.below⟩
     ·obtain ⟨hk1, hsx, hzx, hrx⟩ := crash_b HSAY.out HKK.out HK2.out HS2.out HSK.out HST.out HT2.out HZK.out htn
      subst hk1 hsx hzx
      have HRX := hide hrx
      clear hrx
      have HZ1 : Hid (IntKind.i64.wrap (zt + 1) = zt + 1) := hide (IntWalk.i64_in _ (by have := HT16.out; have := HT2.out; omega))
      have hw1 := HZ1.out
      have hzq : (zt + 1 == zt) = false := by simp <;> omega
      obtain ⟨Fj, qj, hjr⟩ := HZ.out.jr
      refine (state_c g5 d1 Fj D4 KJ qj _ hjr).mono ?_
      rintro e wq ⟨rfl, rfl⟩
      clear hjr
      rw [HSK.out]
      go_wp2_with fail
      obtain ⟨Fj, qj, hjr⟩ := HZ.out.jr
      refine (turn_c g5 d1 Fj D4 KJ qj _ hjr).mono ?_
      rintro e wq ⟨rfl, rfl⟩
      clear hjr
      rw [HZK.out]
      go_wp2_with fail
      refine wp_region_held_drew (S := fun W => (∀ j, W.cell? ⟨b6, j, none⟩ = ([.int .i64 1, .int .i64 ln, .int .i64 lm, .int .u8 lf, .slice Al ml cl] : List Value)[j]?)) (by kernel_rfl) (HO.out.drew.cells 1 rfl) (fun hS0 => ?_)
      replace HO := hide HO.out.drew
      replace HZ := hide (HZ.out.step (keeps_jn g5 d1 D4 KJ) (below_drew _))
      refine tk 0 ?_
      refine tk 2 ?_
      refine tr1 1 fun K hK => ?_
      go_simp
      obtain ⟨Fj, qj, hjr⟩ := HZ.out.jr
      refine (state_c g5 d1 Fj D4 KJ qj _ hjr).mono ?_
      rintro e wq ⟨rfl, rfl⟩
      clear hjr
      rw [HSK.out]
      refine hK.out _ _ (HO.out.cells 1 rfl) (fun hS2 => ?_)
      clear hK K
      try simp only [Act.put, qa, qb, qc, qd, qe, qf]
      refine tk 3 ?_
      refine tk 4 ?_
      refine tk 5 ?_
      refine tk 7 ?_
      refine tr1 6 fun K hK => ?_
      go_simp
      obtain ⟨Fj, qj, hjr⟩ := HZ.out.jr
      refine (turn_c g5 d1 Fj D4 KJ qj _ hjr).mono ?_
      rintro e wq ⟨rfl, rfl⟩
      clear hjr
      rw [HZK.out]
      refine hK.out _ _ (HO.out.cells 1 rfl) (fun hS7 => ?_)
      clear hK K
      try simp only [Act.put, qa, qb, qc, qd, qe, qf]
      refine tk 8 ?_
      refine tk 9 ?_
      refine tk 10 ?_
      refine ty 11 (undef) rfl (Or.inr ⟨by rfl, rfl⟩) ?_
      refine ty 12 (undef) rfl (Or.inr ⟨by rfl, rfl⟩) ?_
      refine ty 13 (undef) rfl (Or.inr ⟨by rfl, rfl⟩) ?_
      refine ty 14 (undef) rfl (Or.inr ⟨by rfl, rfl⟩) ?_
      refine ty 15 (undef) rfl (Or.inr ⟨by rfl, rfl⟩) ?_
      refine ty 16 (undef) rfl (Or.inr ⟨by rfl, rfl⟩) ?_
      refine ty 17 (undef) rfl (Or.inr ⟨by rfl, rfl⟩) ?_
      refine ty 18 (undef) rfl (Or.inr ⟨by rfl, rfl⟩) ?_
      refine ty 19 (undef) rfl (Or.inr ⟨by rfl, rfl⟩) ?_
      refine ty 20 (undef) rfl (Or.inr ⟨by rfl, rfl⟩) ?_
      refine tk 21 ?_
      refine tk 22 ?_
      refine wpAnyH_done (by kernel_rfl) ?_ _
      clear hS0
      try clear kx k6
      have kx := HO.out.cells 0 rfl
      have k6 := HO.out.cells 1 rfl
      go_wp2_with fail
      refine wp_region_held_drew (S := fun W => (∀ j, W.cell? ⟨b6, j, none⟩ = ([.int .i64 1, .int .i64 ln, .int .i64 lm, .int .u8 lf, .slice Al ml cl] : List Value)[j]?)) (by kernel_rfl) (HO.out.drew.cells 1 rfl) (fun hS0 => ?_)
      replace HO := hide HO.out.drew
      replace HZ := hide (HZ.out.step (keeps_jn g5 d1 D4 KJ) (below_drew _))
      refine tk 0 ?_
      refine ty 2 (.agg ([.int .i64 1, .int .i64 ln, .int .i64 lm, .int .u8 lf, .slice Al ml cl] : List Value).toArray) rfl (yieldsIf_load rfl 42 (.tmp 6) rfl b6 0 5 42 ([.int .i64 1, .int .i64 ln, .int .i64 lm, .int .u8 lf, .slice Al ml cl]) ([.int .i64 1, .int .i64 ln, .int .i64 lm, .int .u8 lf, .slice Al ml cl]) _ (fun w hw => hw) (take_all rfl) rfl Tryz.underlying42 rfl (by kernel_rfl)) ?_
      refine tr1 1 fun K hK => ?_
      go_simp
      obtain ⟨Fj, qj, hjr⟩ := HZ.out.jr
      refine (state_c g5 d1 Fj D4 KJ qj _ hjr).mono ?_
      rintro e wq ⟨rfl, rfl⟩
      clear hjr
      rw [HSK.out]
      refine hK.out _ _ (HO.out.cells 1 rfl) (fun hS2 => ?_)
      clear hK K
      try simp only [Act.put, qa, qb, qc, qd, qe, qf]
      refine tr1 3 fun K hK => ?_
      go_simp
      refine (HTX.out _).mono ?_
      rintro e w17 ⟨rfl, hb17⟩
      replace HO := hide (HO.out.step hb17)
      replace HZ := hide (HZ.out.step (keeps_jn g5 d1 D4 KJ) hb17)
      clear hb17
      refine hK.out _ _ (HO.out.cells 1 rfl) (fun hS3 => ?_)
      clear hK K
      try simp only [Act.put, qa, qb, qc, qd, qe, qf]
      refine tk 4 ?_
      refine tk 5 ?_
      refine tk 6 ?_
      refine tk 8 ?_
      refine tk 9 ?_
      refine tr1 7 fun K hK => ?_
      go_simp
      obtain ⟨Fj, qj, hjr⟩ := HZ.out.jr
      refine (turn_c g5 d1 Fj D4 KJ qj _ hjr).mono ?_
      rintro e wq ⟨rfl, rfl⟩
      clear hjr
      rw [HZK.out]
      refine hK.out _ _ (HO.out.cells 1 rfl) (fun hS9 => ?_)
      clear hK K
      try simp only [Act.put, qa, qb, qc, qd, qe, qf]
      refine tk 10 ?_
      refine tk 11 ?_
      refine tk 12 ?_
      refine tk 13 ?_
      refine tr1 14 fun K hK => ?_
      go_simp
      obtain ⟨Fj, qj, hjr⟩ := HZ.out.jr
      refine (records_c g5 d1 Fj D4 KJ qj _ hjr (by rw [HRX.out]; exact Nat.zero_le _)).mono ?_
      rintro e w16 ⟨v16, rfl, hs16, ho16, hb16⟩
      obtain ⟨Ar9, m9, c9, rfl, hm9, hx3, hx4⟩ := hs16.formN
      obtain rfl : m9 = 0 := by rw [hm9.out, HRX.out]; rfl
      replace HO := hide (HO.out.step hb16)
      replace HZ := hide (HZ.out.step (keeps_jn g5 d1 D4 KJ) hb16)
      clear hjr hs16 ho16 hb16 hm9 hx3 hx4
      refine hK.out _ _ (HO.out.cells 1 rfl) (fun hS14 => ?_)
      clear hK K
      try simp only [Act.put, qa, qb, qc, qd, qe, qf]
      refine tk 15 ?_
      refine tk 16 ?_
      refine tk 17 ?_
      refine tk 18 ?_
      refine wpAnyH_done (by kernel_rfl) ?_ _
      clear hS0
      go_wp2_with fail
      go_ret
      exact ⟨rfl, HO.out.below⟩
    ·obtain ⟨hk1, hsx, hzx, hrx⟩ := crash_a HSAY.out HKK.out HK2.out HS2.out HSK.out HST.out HT2.out HZK.out hst
     subst hk1 hsx hzx
     have HRX := hide hrx
     clear hrx
     have HZ1 : Hid (IntKind.i64.wrap (zt + 1) = zt + 1) := hide (IntWalk.i64_in _ (by have := HT16.out; have := HT2.out; omega))
     have hw1 := HZ1.out
     have hzq : (zt + 1 == zt) = false := by simp <;> omega
     have hq1 : (sK.data == sS.data) = false := by simpa using fun e => hst (ByteArray.ext e)
     have hq2 : (sK.toList == sS.toList) = false := by simpa [ByteArray.toList_eq, ← Array.toList_inj] using hq1
     obtain ⟨Fj, qj, hjr⟩ := HZ.out.jr
     refine (state_c g5 d1 Fj D4 KJ qj _ hjr).mono ?_
     rintro e wq ⟨rfl, rfl⟩
     clear hjr
     rw [HSK.out]
     go_wp2_with fail
     refine wp_region_held_drew (S := fun W => (∀ j, W.cell? ⟨b6, j, none⟩ = ([.int .i64 1, .int .i64 ln, .int .i64 lm, .int .u8 lf, .slice Al ml cl] : List Value)[j]?)) (by kernel_rfl) (HO.out.drew.cells 1 rfl) (fun hS0 => ?_)
     replace HO := hide HO.out.drew
     replace HZ := hide (HZ.out.step (keeps_jn g5 d1 D4 KJ) (below_drew _))
     refine tk 0 ?_
     refine tk 2 ?_
     refine tr1 1 fun K hK => ?_
     go_simp
     obtain ⟨Fj, qj, hjr⟩ := HZ.out.jr
     refine (state_c g5 d1 Fj D4 KJ qj _ hjr).mono ?_
     rintro e wq ⟨rfl, rfl⟩
     clear hjr
     rw [HSK.out]
     refine hK.out _ _ (HO.out.cells 1 rfl) (fun hS2 => ?_)
     clear hK K
     try simp only [Act.put, qa, qb, qc, qd, qe, qf]
     refine tk 3 ?_
     refine tk 4 ?_
     refine ty 5 (undef) rfl (Or.inr ⟨by rfl, rfl⟩) ?_
     refine ty 6 (undef) rfl (Or.inr ⟨by rfl, rfl⟩) ?_
     refine ty 7 (undef) rfl (Or.inr ⟨by rfl, rfl⟩) ?_
     refine ty 8 (undef) rfl (Or.inr ⟨by rfl, rfl⟩) ?_
     refine tk 9 ?_
     refine tk 10 ?_
     refine ty 11 (undef) rfl (Or.inr ⟨by rfl, rfl⟩) ?_
     refine ty 12 (undef) rfl (Or.inr ⟨by rfl, rfl⟩) ?_
     refine ty 13 (undef) rfl (Or.inr ⟨by rfl, rfl⟩) ?_
     refine ty 14 (undef) rfl (Or.inr ⟨by rfl, rfl⟩) ?_
     refine ty 15 (undef) rfl (Or.inr ⟨by rfl, rfl⟩) ?_
     refine ty 16 (undef) rfl (Or.inr ⟨by rfl, rfl⟩) ?_
     refine ty 17 (undef) rfl (Or.inr ⟨by rfl, rfl⟩) ?_
     refine ty 18 (undef) rfl (Or.inr ⟨by rfl, rfl⟩) ?_
     refine ty 19 (undef) rfl (Or.inr ⟨by rfl, rfl⟩) ?_
     refine ty 20 (undef) rfl (Or.inr ⟨by rfl, rfl⟩) ?_
     refine tk 21 ?_
     refine tk 22 ?_
     refine wpAnyH_done (by kernel_rfl) ?_ _
     clear hS0
     try clear kx k6
     have kx := HO.out.cells 0 rfl
     have k6 := HO.out.cells 1 rfl
     go_wp2_with fail
     refine wp_region_held_drew (S := fun W => (∀ j, W.cell? ⟨b6, j, none⟩ = ([.int .i64 1, .int .i64 ln, .int .i64 lm, .int .u8 lf, .slice Al ml cl] : List Value)[j]?)) (by kernel_rfl) (HO.out.drew.cells 1 rfl) (fun hS0 => ?_)
     replace HO := hide HO.out.drew
     replace HZ := hide (HZ.out.step (keeps_jn g5 d1 D4 KJ) (below_drew _))
     refine tk 0 ?_
     refine ty 2 (.agg ([.int .i64 1, .int .i64 ln, .int .i64 lm, .int .u8 lf, .slice Al ml cl] : List Value).toArray) rfl (yieldsIf_load rfl 42 (.tmp 6) rfl b6 0 5 42 ([.int .i64 1, .int .i64 ln, .int .i64 lm, .int .u8 lf, .slice Al ml cl]) ([.int .i64 1, .int .i64 ln, .int .i64 lm, .int .u8 lf, .slice Al ml cl]) _ (fun w hw => hw) (take_all rfl) rfl Tryz.underlying42 rfl (by kernel_rfl)) ?_
     refine tr1 1 fun K hK => ?_
     go_simp
     obtain ⟨Fj, qj, hjr⟩ := HZ.out.jr
     refine (state_c g5 d1 Fj D4 KJ qj _ hjr).mono ?_
     rintro e wq ⟨rfl, rfl⟩
     clear hjr
     rw [HSK.out]
     refine hK.out _ _ (HO.out.cells 1 rfl) (fun hS2 => ?_)
     clear hK K
     try simp only [Act.put, qa, qb, qc, qd, qe, qf]
     refine tr1 3 fun K hK => ?_
     go_simp
     refine (HTX.out _).mono ?_
     rintro e w17 ⟨rfl, hb17⟩
     replace HO := hide (HO.out.step hb17)
     replace HZ := hide (HZ.out.step (keeps_jn g5 d1 D4 KJ) hb17)
     clear hb17
     refine hK.out _ _ (HO.out.cells 1 rfl) (fun hS3 => ?_)
     clear hK K
     try simp only [Act.put, qa, qb, qc, qd, qe, qf]
     refine tk 4 ?_
     refine tk 5 ?_
     refine tk 6 ?_
     refine tk 8 ?_
     refine tk 9 ?_
     refine tr1 7 fun K hK => ?_
     go_simp
     obtain ⟨Fj, qj, hjr⟩ := HZ.out.jr
     refine (turn_c g5 d1 Fj D4 KJ qj _ hjr).mono ?_
     rintro e wq ⟨rfl, rfl⟩
     clear hjr
     rw [HZK.out]
     refine hK.out _ _ (HO.out.cells 1 rfl) (fun hS9 => ?_)
     clear hK K
     try simp only [Act.put, qa, qb, qc, qd, qe, qf]
     refine tk 10 ?_
     refine tk 11 ?_
     refine tk 12 ?_
     refine tk 13 ?_
     refine tr1 14 fun K hK => ?_
     go_simp
     obtain ⟨Fj, qj, hjr⟩ := HZ.out.jr
     refine (records_c g5 d1 Fj D4 KJ qj _ hjr (by rw [HRX.out]; exact Nat.zero_le _)).mono ?_
     rintro e w16 ⟨v16, rfl, hs16, ho16, hb16⟩
     obtain ⟨Ar9, m9, c9, rfl, hm9, hx3, hx4⟩ := hs16.formN
     obtain rfl : m9 = 0 := by rw [hm9.out, HRX.out]; rfl
     replace HO := hide (HO.out.step hb16)
     replace HZ := hide (HZ.out.step (keeps_jn g5 d1 D4 KJ) hb16)
     clear hjr hs16 ho16 hb16 hm9 hx3 hx4
     refine hK.out _ _ (HO.out.cells 1 rfl) (fun hS14 => ?_)
     clear hK K
     try simp only [Act.put, qa, qb, qc, qd, qe, qf]
     refine tk 15 ?_
     refine tk 16 ?_
     refine tk 17 ?_
     refine tk 18 ?_
     refine wpAnyH_done (by kernel_rfl) ?_ _
     clear hS0
     go_wp2_with fail
     go_ret
     exact ⟨rfl, HO.out.below⟩
   ·go_wp2_with fail
    try clear kx k6
    have kx := HO.out.cells 0 rfl
    have k6 := HO.out.cells 1 rfl
    go_wp2_with (first
     | ((with_reducible refine at_load 32 (.tmp 120) ?_); refine wpList_load_own HO.out rfl 32 (.tmp 120) rfl 0 _ 2 4 _ _ ([.slice A7 n7 c7, .slice B7 m7 bb7, .int .i64 fz7, .bool fl7]) _ rfl rfl rfl Tryz.underlying32 rfl (by kernel_rfl) ?_))
    refine (Zs.look (keeps_jn g4 d1 D3 J3) HZ.out (fun F hr => rcoin_c F _ D3 (.slice Av nv cv) sl _ (Rj.rf hr) (HV3.out.step HO.out.below) (by have := HK3.out.sound.few; omega) (by have := HK3.out.sound.top; omega) HK3.out.sound.len) (fun e w' h => h.2)).mono ?_
    rintro e w13 ⟨⟨rfl, hb13⟩, hz⟩
    replace HO := hide (HO.out.step hb13)
    replace HZ := hide hz
    clear hb13 hz
    by_cases hco : coin D3 sl = true
    ·rw [hco]
     go_wp2_with fail
     go_ret
     exact ⟨rfl, HO.out.below⟩
    have hco' : coin D3 sl = false := by simpa using hco
    rw [hco']
    obtain ⟨KJ, D4, hjo, hsay⟩ := HCL.out hco'
    have HJO := hide hjo
    have HSAY := hide hsay
    clear hco hco' hjo hsay HCL
    try clear kx k6
    have kx := HO.out.cells 0 rfl
    have k6 := HO.out.cells 1 rfl
    go_wp2_with fail
    refine (Zs.turnG (P' := fun W G => Jn W g4 d1 G (dCrash D3 sl) J3) (R := fun e => e = .returned (.tuple #[])) HZ.out (fun G hG hlo => jn_callG hG fun F hF hFG => crash_cR d1 F D3 (.slice Av nv cv) sl _ hF (HV3.out.step HO.out.below) (fun hne j hj hm => by have h1 := is_lt HV3.out hne j hj; have := hlo j (hFG j hm); omega))).mono ?_
    rintro e w14 ⟨rfl, hz, hst⟩
    replace HO := hide (hst [(x, 55, [.pointer (some ⟨d1, 0, none⟩), .pointer (some ⟨g4, 0, none⟩), .slice A7 n7 c7, .slice B7 m7 bb7, .int .i64 fz7, .bool fl7, .int .i64 zt7, sv tt7, .slice Ar7 nr7 cr7, .int .i64 zu7, .bool br7]), (b6, 42, [.int .i64 k2, .int .i64 ln, .int .i64 lm, .int .u8 lf, .slice Al ml cl])] (by simp) HO.out)
    replace HZ : Hid (Zs (fun W G => Jn W g4 d1 G (dCrash D3 sl) J3) _ _ _ _ _ _ _ _) := hide hz
    clear hst hz
    have HS4 := hide (sound_crash HK3.out.sound sl).1
    try clear kx k6
    have kx := HO.out.cells 0 rfl
    have k6 := HO.out.cells 1 rfl
    go_wp2_with fail
    replace HZ := hide HZ.out.disk
    refine (Zs.turnE (ι := Nat) (P' := fun g' => fun W G => Jn W g' d1 G D4 KJ) (R := fun g' e => e = .returned (.tuple #[.pointer (some ⟨g', 0, none⟩), .int .i64 0])) HZ.out (fun G hG => ?_)).mono ?_
    ·refine (jopen_c d1 G (dCrash D3 sl) _ hG (by have := HS4.out.few; omega) (by have := HS4.out.top; omega)).mono fun e w' h => ?_
     rw [HJO.out] at h
     obtain ⟨g', he, ht⟩ := (turns_open h).1 rfl
     exact ⟨g', he, ht⟩
    rintro e w15 ⟨g5, rfl, hz, hst⟩
    replace HO := hide (hst [(x, 55, [.pointer (some ⟨d1, 0, none⟩), .pointer (some ⟨g4, 0, none⟩), .slice A7 n7 c7, .slice B7 m7 bb7, .int .i64 fz7, .bool fl7, .int .i64 zt7, sv tt7, .slice Ar7 nr7 cr7, .int .i64 zu7, .bool br7]), (b6, 42, [.int .i64 k2, .int .i64 ln, .int .i64 lm, .int .u8 lf, .slice Al ml cl])] (by simp) HO.out)
    replace HZ : Hid (Zs (fun W G => Jn W g5 d1 G D4 KJ) _ _ _ _ _ _ _ _) := hide hz
    clear hst hz
    try clear kx k6
    have kx := HO.out.cells 0 rfl
    have k6 := HO.out.cells 1 rfl
    go_wp2_with fail
    obtain ⟨sK, hsK⟩ : ∃ S : ByteArray, sv KJ.state = .string S := ⟨_, rfl⟩
    obtain ⟨zK, hzK⟩ : ∃ z : Int, (KJ.turn : Int) = z := ⟨_, rfl⟩
    obtain ⟨sT, hsT⟩ : ∃ S : ByteArray, (⟨(pText lo2).toArray⟩ : ByteArray) = S := ⟨_, rfl⟩
    have HSK := hide hsK
    have HZK := hide hzK
    have HST := hide hsT
    clear hsK hzK hsT
    have HTX : Hid (∀ X : World, Calls Tryz.prog 15 #[.agg ([.int .i64 k2, .int .i64 ln, .int .i64 lm, .int .u8 lf, .slice Al ml cl] : List Value).toArray] X fun e w' => e = .returned (.string sT) ∧ Below X.heap.size X w') := hide (fun X => by
     have h := text_c lo2.kind lo2.n lo2.m lo2.fill HLO2.out.fill HLO2.out.n lo2.sv (is_one HLO2.out.surv) X
     have e : ([.int .i64 lo2.kind, .int .i64 lo2.n, .int .i64 lo2.m, .int .u8 lo2.fill, lo2.sv] : List Value) = [.int .i64 k2, .int .i64 ln, .int .i64 lm, .int .u8 lf, .slice Al ml cl] := HC2.out
     rw [e] at h
     have e2 : (⟨(jText ((max 0 lo2.n) % 400).toNat lo2.fill).toArray⟩ : ByteArray) = sT := HST.out
     rw [e2] at h
     exact h)
    by_cases hst : sK = sS
    ·subst hst
     by_cases htn : zK = zt
     ·exfalso
      exact crash_no HSAY.out HKK.out HTK.out HT2.out HT7.out HZK.out hz7 htn
     ·obtain ⟨hk1, hsx, hzx, hrx⟩ := crash_b HSAY.out HKK.out HK2.out HS2.out HSK.out HST.out HT2.out HZK.out htn
      subst hk1 hsx hzx
      have HRX := hide hrx
      clear hrx
      have HZ1 : Hid (IntKind.i64.wrap (zt + 1) = zt + 1) := hide (IntWalk.i64_in _ (by have := HT16.out; have := HT2.out; omega))
      have hw1 := HZ1.out
      have hzq : (zt + 1 == zt) = false := by simp <;> omega
      obtain ⟨Fj, qj, hjr⟩ := HZ.out.jr
      refine (state_c g5 d1 Fj D4 KJ qj _ hjr).mono ?_
      rintro e wq ⟨rfl, rfl⟩
      clear hjr
      rw [HSK.out]
      go_wp2_with fail
      obtain ⟨Fj, qj, hjr⟩ := HZ.out.jr
      refine (turn_c g5 d1 Fj D4 KJ qj _ hjr).mono ?_
      rintro e wq ⟨rfl, rfl⟩
      clear hjr
      rw [HZK.out]
      go_wp2_with fail
      refine wp_region_held_drew (S := fun W => (∀ j, W.cell? ⟨b6, j, none⟩ = ([.int .i64 1, .int .i64 ln, .int .i64 lm, .int .u8 lf, .slice Al ml cl] : List Value)[j]?)) (by kernel_rfl) (HO.out.drew.cells 1 rfl) (fun hS0 => ?_)
      replace HO := hide HO.out.drew
      replace HZ := hide (HZ.out.step (keeps_jn g5 d1 D4 KJ) (below_drew _))
      refine tk 0 ?_
      refine tk 2 ?_
      refine tr1 1 fun K hK => ?_
      go_simp
      obtain ⟨Fj, qj, hjr⟩ := HZ.out.jr
      refine (state_c g5 d1 Fj D4 KJ qj _ hjr).mono ?_
      rintro e wq ⟨rfl, rfl⟩
      clear hjr
      rw [HSK.out]
      refine hK.out _ _ (HO.out.cells 1 rfl) (fun hS2 => ?_)
      clear hK K
      try simp only [Act.put, qa, qb, qc, qd, qe, qf]
      refine tk 3 ?_
      refine tk 4 ?_
      refine tk 5 ?_
      refine tk 7 ?_
      refine tr1 6 fun K hK => ?_
      go_simp
      obtain ⟨Fj, qj, hjr⟩ := HZ.out.jr
      refine (turn_c g5 d1 Fj D4 KJ qj _ hjr).mono ?_
      rintro e wq ⟨rfl, rfl⟩
      clear hjr
      rw [HZK.out]
      refine hK.out _ _ (HO.out.cells 1 rfl) (fun hS7 => ?_)
      clear hK K
      try simp only [Act.put, qa, qb, qc, qd, qe, qf]
      refine tk 8 ?_
      refine tk 9 ?_
      refine tk 10 ?_
      refine ty 11 (undef) rfl (Or.inr ⟨by rfl, rfl⟩) ?_
      refine ty 12 (undef) rfl (Or.inr ⟨by rfl, rfl⟩) ?_
      refine ty 13 (undef) rfl (Or.inr ⟨by rfl, rfl⟩) ?_
      refine ty 14 (undef) rfl (Or.inr ⟨by rfl, rfl⟩) ?_
      refine ty 15 (undef) rfl (Or.inr ⟨by rfl, rfl⟩) ?_
      refine ty 16 (undef) rfl (Or.inr ⟨by rfl, rfl⟩) ?_
      refine ty 17 (undef) rfl (Or.inr ⟨by rfl, rfl⟩) ?_
      refine ty 18 (undef) rfl (Or.inr ⟨by rfl, rfl⟩) ?_
      refine ty 19 (undef) rfl (Or.inr ⟨by rfl, rfl⟩) ?_
      refine ty 20 (undef) rfl (Or.inr ⟨by rfl, rfl⟩) ?_
      refine tk 21 ?_
      refine tk 22 ?_
      refine wpAnyH_done (by kernel_rfl) ?_ _
      clear hS0
      try clear kx k6
      have kx := HO.out.cells 0 rfl
      have k6 := HO.out.cells 1 rfl
      go_wp2_with fail
      refine wp_region_held_drew (S := fun W => (∀ j, W.cell? ⟨b6, j, none⟩ = ([.int .i64 1, .int .i64 ln, .int .i64 lm, .int .u8 lf, .slice Al ml cl] : List Value)[j]?)) (by kernel_rfl) (HO.out.drew.cells 1 rfl) (fun hS0 => ?_)
      replace HO := hide HO.out.drew
      replace HZ := hide (HZ.out.step (keeps_jn g5 d1 D4 KJ) (below_drew _))
      refine tk 0 ?_
      refine ty 2 (.agg ([.int .i64 1, .int .i64 ln, .int .i64 lm, .int .u8 lf, .slice Al ml cl] : List Value).toArray) rfl (yieldsIf_load rfl 42 (.tmp 6) rfl b6 0 5 42 ([.int .i64 1, .int .i64 ln, .int .i64 lm, .int .u8 lf, .slice Al ml cl]) ([.int .i64 1, .int .i64 ln, .int .i64 lm, .int .u8 lf, .slice Al ml cl]) _ (fun w hw => hw) (take_all rfl) rfl Tryz.underlying42 rfl (by kernel_rfl)) ?_
      refine tr1 1 fun K hK => ?_
      go_simp
      obtain ⟨Fj, qj, hjr⟩ := HZ.out.jr
      refine (state_c g5 d1 Fj D4 KJ qj _ hjr).mono ?_
      rintro e wq ⟨rfl, rfl⟩
      clear hjr
      rw [HSK.out]
      refine hK.out _ _ (HO.out.cells 1 rfl) (fun hS2 => ?_)
      clear hK K
      try simp only [Act.put, qa, qb, qc, qd, qe, qf]
      refine tr1 3 fun K hK => ?_
      go_simp
      refine (HTX.out _).mono ?_
      rintro e w17 ⟨rfl, hb17⟩
      replace HO := hide (HO.out.step hb17)
      replace HZ := hide (HZ.out.step (keeps_jn g5 d1 D4 KJ) hb17)
      clear hb17
      refine hK.out _ _ (HO.out.cells 1 rfl) (fun hS3 => ?_)
      clear hK K
      try simp only [Act.put, qa, qb, qc, qd, qe, qf]
      refine tk 4 ?_
      refine tk 5 ?_
      refine tk 6 ?_
      refine tk 8 ?_
      refine tk 9 ?_
      refine tr1 7 fun K hK => ?_
      go_simp
      obtain ⟨Fj, qj, hjr⟩ := HZ.out.jr
      refine (turn_c g5 d1 Fj D4 KJ qj _ hjr).mono ?_
      rintro e wq ⟨rfl, rfl⟩
      clear hjr
      rw [HZK.out]
      refine hK.out _ _ (HO.out.cells 1 rfl) (fun hS9 => ?_)
      clear hK K
      try simp only [Act.put, qa, qb, qc, qd, qe, qf]
      refine tk 10 ?_
      refine tk 11 ?_
      refine tk 12 ?_
      refine tk 13 ?_
      refine tr1 14 fun K hK => ?_
      go_simp
      obtain ⟨Fj, qj, hjr⟩ := HZ.out.jr
      refine (records_c g5 d1 Fj D4 KJ qj _ hjr (by rw [HRX.out]; exact Nat.zero_le _)).mono ?_
      rintro e w16 ⟨v16, rfl, hs16, ho16, hb16⟩
      obtain ⟨Ar9, m9, c9, rfl, hm9, hx3, hx4⟩ := hs16.formN
      obtain rfl : m9 = 0 := by rw [hm9.out, HRX.out]; rfl
      replace HO := hide (HO.out.step hb16)
      replace HZ := hide (HZ.out.step (keeps_jn g5 d1 D4 KJ) hb16)
      clear hjr hs16 ho16 hb16 hm9 hx3 hx4
      refine hK.out _ _ (HO.out.cells 1 rfl) (fun hS14 => ?_)
      clear hK K
      try simp only [Act.put, qa, qb, qc, qd, qe, qf]
      refine tk 15 ?_
      refine tk 16 ?_
      refine tk 17 ?_
      refine tk 18 ?_
      refine wpAnyH_done (by kernel_rfl) ?_ _
      clear hS0
      go_wp2_with fail
      go_ret
      exact ⟨rfl, HO.out.below⟩
    ·obtain ⟨hk1, hsx, hzx, hrx⟩ := crash_a HSAY.out HKK.out HK2.out HS2.out HSK.out HST.out HT2.out HZK.out hst
     subst hk1 hsx hzx
     have HRX := hide hrx
     clear hrx
     have HZ1 : Hid (IntKind.i64.wrap (zt + 1) = zt + 1) := hide (IntWalk.i64_in _ (by have := HT16.out; have := HT2.out; omega))
     have hw1 := HZ1.out
     have hzq : (zt + 1 == zt) = false := by simp <;> omega
     have hq1 : (sK.data == sS.data) = false := by simpa using fun e => hst (ByteArray.ext e)
     have hq2 : (sK.toList == sS.toList) = false := by simpa [ByteArray.toList_eq, ← Array.toList_inj] using hq1
     obtain ⟨Fj, qj, hjr⟩ := HZ.out.jr
     refine (state_c g5 d1 Fj D4 KJ qj _ hjr).mono ?_
     rintro e wq ⟨rfl, rfl⟩
     clear hjr
     rw [HSK.out]
     go_wp2_with fail
     refine wp_region_held_drew (S := fun W => (∀ j, W.cell? ⟨b6, j, none⟩ = ([.int .i64 1, .int .i64 ln, .int .i64 lm, .int .u8 lf, .slice Al ml cl] : List Value)[j]?)) (by kernel_rfl) (HO.out.drew.cells 1 rfl) (fun hS0 => ?_)
     replace HO := hide HO.out.drew
     replace HZ := hide (HZ.out.step (keeps_jn g5 d1 D4 KJ) (below_drew _))
     refine tk 0 ?_
     refine tk 2 ?_
     refine tr1 1 fun K hK => ?_
     go_simp
     obtain ⟨Fj, qj, hjr⟩ := HZ.out.jr
     refine (state_c g5 d1 Fj D4 KJ qj _ hjr).mono ?_
     rintro e wq ⟨rfl, rfl⟩
     clear hjr
     rw [HSK.out]
     refine hK.out _ _ (HO.out.cells 1 rfl) (fun hS2 => ?_)
     clear hK K
     try simp only [Act.put, qa, qb, qc, qd, qe, qf]
     refine tk 3 ?_
     refine tk 4 ?_
     refine ty 5 (undef) rfl (Or.inr ⟨by rfl, rfl⟩) ?_
     refine ty 6 (undef) rfl (Or.inr ⟨by rfl, rfl⟩) ?_
     refine ty 7 (undef) rfl (Or.inr ⟨by rfl, rfl⟩) ?_
     refine ty 8 (undef) rfl (Or.inr ⟨by rfl, rfl⟩) ?_
     refine tk 9 ?_
     refine tk 10 ?_
     refine ty 11 (undef) rfl (Or.inr ⟨by rfl, rfl⟩) ?_
     refine ty 12 (undef) rfl (Or.inr ⟨by rfl, rfl⟩) ?_
     refine ty 13 (undef) rfl (Or.inr ⟨by rfl, rfl⟩) ?_
     refine ty 14 (undef) rfl (Or.inr ⟨by rfl, rfl⟩) ?_
     refine ty 15 (undef) rfl (Or.inr ⟨by rfl, rfl⟩) ?_
     refine ty 16 (undef) rfl (Or.inr ⟨by rfl, rfl⟩) ?_
     refine ty 17 (undef) rfl (Or.inr ⟨by rfl, rfl⟩) ?_
     refine ty 18 (undef) rfl (Or.inr ⟨by rfl, rfl⟩) ?_
     refine ty 19 (undef) rfl (Or.inr ⟨by rfl, rfl⟩) ?_
     refine ty 20 (undef) rfl (Or.inr ⟨by rfl, rfl⟩) ?_
     refine tk 21 ?_
     refine tk 22 ?_
     refine wpAnyH_done (by kernel_rfl) ?_ _
     clear hS0
     try clear kx k6
     have kx := HO.out.cells 0 rfl
     have k6 := HO.out.cells 1 rfl
     go_wp2_with fail
     refine wp_region_held_drew (S := fun W => (∀ j, W.cell? ⟨b6, j, none⟩ = ([.int .i64 1, .int .i64 ln, .int .i64 lm, .int .u8 lf, .slice Al ml cl] : List Value)[j]?)) (by kernel_rfl) (HO.out.drew.cells 1 rfl) (fun hS0 => ?_)
     replace HO := hide HO.out.drew
     replace HZ := hide (HZ.out.step (keeps_jn g5 d1 D4 KJ) (below_drew _))
     refine tk 0 ?_
     refine ty 2 (.agg ([.int .i64 1, .int .i64 ln, .int .i64 lm, .int .u8 lf, .slice Al ml cl] : List Value).toArray) rfl (yieldsIf_load rfl 42 (.tmp 6) rfl b6 0 5 42 ([.int .i64 1, .int .i64 ln, .int .i64 lm, .int .u8 lf, .slice Al ml cl]) ([.int .i64 1, .int .i64 ln, .int .i64 lm, .int .u8 lf, .slice Al ml cl]) _ (fun w hw => hw) (take_all rfl) rfl Tryz.underlying42 rfl (by kernel_rfl)) ?_
     refine tr1 1 fun K hK => ?_
     go_simp
     obtain ⟨Fj, qj, hjr⟩ := HZ.out.jr
     refine (state_c g5 d1 Fj D4 KJ qj _ hjr).mono ?_
     rintro e wq ⟨rfl, rfl⟩
     clear hjr
     rw [HSK.out]
     refine hK.out _ _ (HO.out.cells 1 rfl) (fun hS2 => ?_)
     clear hK K
     try simp only [Act.put, qa, qb, qc, qd, qe, qf]
     refine tr1 3 fun K hK => ?_
     go_simp
     refine (HTX.out _).mono ?_
     rintro e w17 ⟨rfl, hb17⟩
     replace HO := hide (HO.out.step hb17)
     replace HZ := hide (HZ.out.step (keeps_jn g5 d1 D4 KJ) hb17)
     clear hb17
     refine hK.out _ _ (HO.out.cells 1 rfl) (fun hS3 => ?_)
     clear hK K
     try simp only [Act.put, qa, qb, qc, qd, qe, qf]
     refine tk 4 ?_
     refine tk 5 ?_
     refine tk 6 ?_
     refine tk 8 ?_
     refine tk 9 ?_
     refine tr1 7 fun K hK => ?_
     go_simp
     obtain ⟨Fj, qj, hjr⟩ := HZ.out.jr
     refine (turn_c g5 d1 Fj D4 KJ qj _ hjr).mono ?_
     rintro e wq ⟨rfl, rfl⟩
     clear hjr
     rw [HZK.out]
     refine hK.out _ _ (HO.out.cells 1 rfl) (fun hS9 => ?_)
     clear hK K
     try simp only [Act.put, qa, qb, qc, qd, qe, qf]
     refine tk 10 ?_
     refine tk 11 ?_
     refine tk 12 ?_
     refine tk 13 ?_
     refine tr1 14 fun K hK => ?_
     go_simp
     obtain ⟨Fj, qj, hjr⟩ := HZ.out.jr
     refine (records_c g5 d1 Fj D4 KJ qj _ hjr (by rw [HRX.out]; exact Nat.zero_le _)).mono ?_
     rintro e w16 ⟨v16, rfl, hs16, ho16, hb16⟩
     obtain ⟨Ar9, m9, c9, rfl, hm9, hx3, hx4⟩ := hs16.formN
     obtain rfl : m9 = 0 := by rw [hm9.out, HRX.out]; rfl
     replace HO := hide (HO.out.step hb16)
     replace HZ := hide (HZ.out.step (keeps_jn g5 d1 D4 KJ) hb16)
     clear hjr hs16 ho16 hb16 hm9 hx3 hx4
     refine hK.out _ _ (HO.out.cells 1 rfl) (fun hS14 => ?_)
     clear hK K
     try simp only [Act.put, qa, qb, qc, qd, qe, qf]
     refine tk 15 ?_
     refine tk 16 ?_
     refine tk 17 ?_
     refine tk 18 ?_
     refine wpAnyH_done (by kernel_rfl) ?_ _
     clear hS0
     go_wp2_with fail
     go_ret
     exact ⟨rfl, HO.out.below⟩
end Go.Proofs.YtpadgkkeihhneaaGreat
