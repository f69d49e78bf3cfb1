/- settle: the pages that it turns. -/
import Derived.Test.YtpadgkkeihhneaaGreatC13
import Derived.Lib.MinMax
import Derived.Laws.CopyOwn
import Derived.Deep.WholeRow
import Derived.WalkLawsBesides
import Derived.Defers
namespace Go.Proofs.YtpadgkkeihhneaaGreat
set_option maxRecDepth 100000
set_option linter.unusedSimpArgs false
set_option linter.unusedVariables false
section
open Go.ChangeShapes Go.WideShapes Go.ChangeAt Go.RowKit
theorem splice_mid {α : Type} (A P C X : List α) (h : X.length ≤ P.length) : splice (A ++ (P ++ C)) A.length X = A ++ ((X ++ P.drop X.length) ++ C) := by
 unfold splice
 rw [List.take_left, List.append_assoc]
 congr 2
 rw [← List.drop_drop, List.drop_left, List.drop_append_of_le_length h]
theorem splice_take {α : Type} (L X : List α) (off m : Nat) (h : off + X.length ≤ m) (hm : m ≤ L.length) : (splice L off X).take m = splice (L.take m) off X := by
 have hA : (L.take off).length = off := by rw [List.length_take]; omega
 unfold splice
 rw [List.take_append, hA, List.take_of_length_le (l := L.take off) (by rw [hA]; omega), List.take_append, List.take_of_length_le (l := X) (by omega), List.take_take, Nat.min_eq_left (by omega), List.drop_take, Nat.sub_sub]
theorem flatten_len (ps : List (List UInt8)) (h : ∀ p ∈ ps, p.length = 128) : ps.flatten.length = ps.length * 128 := by
 induction ps with
 | nil => rfl
 | cons p ps ih => rw [List.flatten_cons, List.length_append, ih (fun x hx => h x (by simp [hx])), h p (by simp), List.length_cons]; omega
theorem pcells_len (ps : List (List UInt8)) (h : ∀ p ∈ ps, p.length = 128) : (pcells ps).length = ps.length * 128 := by unfold pcells; rw [List.length_map, flatten_len ps h]
theorem pcells_set (ps : List (List UInt8)) (h : ∀ p ∈ ps, p.length = 128) (q : Nat) (hq : q < ps.length) (x : List UInt8) (hx : x.length ≤ 128) :
 pcells (ps.set q (x ++ (ps.getD q []).drop x.length)) = splice (pcells ps) (q * 128) (x.map bv) := by
 have hg : ps.getD q [] = ps[q] := by rw [List.getD_eq_getElem?_getD, List.getElem?_eq_getElem hq]; rfl
 have hlq : (ps[q]).length = 128 := h _ (List.getElem_mem _)
 have hA : ((ps.take q).flatten.map bv).length = q * 128 := by
  rw [List.length_map, flatten_len _ (fun p hp => h p (List.mem_of_mem_take hp)), List.length_take, Nat.min_eq_left (by omega)]
 have e1 : pcells ps = (ps.take q).flatten.map bv ++ ((ps[q]).map bv ++ (ps.drop (q + 1)).flatten.map bv) := by
  unfold pcells
  conv => lhs; rw [← List.take_append_drop q ps]
  rw [List.drop_eq_getElem_cons hq, List.flatten_append, List.flatten_cons, List.map_append, List.map_append]
 have e2 : pcells (ps.set q (x ++ (ps.getD q []).drop x.length)) = (ps.take q).flatten.map bv ++ ((x.map bv ++ ((ps[q]).map bv).drop x.length) ++ (ps.drop (q + 1)).flatten.map bv) := by
  unfold pcells
  rw [List.set_eq_take_append_cons_drop, if_pos hq, List.flatten_append, List.flatten_cons, List.map_append, List.map_append, List.map_append, List.map_drop, hg]
 rw [e1, e2]
 have := splice_mid ((ps.take q).flatten.map bv) ((ps[q]).map bv) ((ps.drop (q + 1)).flatten.map bv) (x.map bv) (by rw [List.length_map, List.length_map, hlq]; exact hx)
 rw [hA, List.length_map] at this
 exact this.symm
/-- One page of a disk is turned in place. -/
theorem dk_setpage {w : World} {d : Nat} {F : List Nat} {D : DS} {gv pv : Value} (h : Dk w d F D gv pv) (q : Nat) (hq : q < D.pages.length) (x : List UInt8) (hx : x.length ≤ 128) :
 ∃ P cap cur, gv = .slice (some ⟨P, 0, none⟩) D.pages.length cap ∧ w.heap[P]? = some (.cells cur.toArray 79 (0, 0)) ∧ q * 128 + 128 ≤ cur.length ∧ P ∈ F ∧
  Dk (w.setRow P (splice cur (q * 128) (x.map bv)).toArray) d F { D with pages := D.pages.set q (x ++ (D.pages.getD q []).drop x.length) } gv pv := by
 obtain ⟨hl, ⟨rfl, h0⟩ | ⟨P, cap, cur, rfl, hb, hh, hn, hm, hs, ht⟩⟩ := h.pages
 ·omega
 ·have hPF := h.gF P rfl
  have hcl : q * 128 + 128 ≤ cur.toList.length := by rw [Array.length_toList, hs]; have : (q + 1) * 128 ≤ cap * 128 := Nat.mul_le_mul_right _ (by omega); omega
  have hsz : (splice cur.toList (q * 128) (x.map bv)).length = cur.size := by
   rw [length_splice _ _ _ (by rw [List.length_map]; omega), Array.length_toList]
  have k : Touch [P] w (w.setRow P (splice cur.toList (q * 128) (x.map bv)).toArray) := ⟨rfl, rfl, rfl, by simp, fun j hj hne => setRow_other w P j _ (by simpa using hne)⟩
  refine ⟨P, cap, cur.toList, rfl, by simpa using hh, hcl, hPF.1, ?_⟩
  refine ⟨h.blk.touch k (by simp; exact fun e => hPF.2 e.symm), ?_, Row.touch h.pend k (fun j hj => by simp; intro e; subst e; exact (h.pF j hj).2.2 rfl), h.inF, h.gF, h.pF, fun j hj => Nat.lt_of_lt_of_le (h.lt j hj) k.size, ?_⟩
  ·have hlen : (D.pages.set q (x ++ (D.pages.getD q []).drop x.length)).length = D.pages.length := by simp
   show Row _ _ _ _ (D.pages.set q _).length _
   rw [hlen, pcells_set D.pages h.ok.pages q hq x hx]
   have hpl := pcells_len D.pages h.ok.pages
   refine ⟨by rw [length_splice _ _ _ (by rw [List.length_map, hpl]; have : (q + 1) * 128 ≤ D.pages.length * 128 := Nat.mul_le_mul_right _ (by omega); omega), hpl], .inr ⟨P, cap, _, rfl, hb, setRow_heap w P cur _ _ _ hh, hn, hm, by rw [List.size_toArray, hsz, hs], ?_⟩⟩
   have : (q + 1) * 128 ≤ D.pages.length * 128 := Nat.mul_le_mul_right _ (by omega)
   have h2 : D.pages.length * 128 ≤ cap * 128 := Nat.mul_le_mul_right _ hn
   show (splice cur.toList (q * 128) (x.map bv)).take _ = _
   rw [splice_take _ _ _ _ (by rw [List.length_map]; omega) (by rw [Array.length_toList, hs]; exact h2), ht]
  ·refine ⟨fun p hp => ?_, fun w' hw' => ?_, h.ok.fuse⟩
   ·rcases List.mem_or_eq_of_mem_set hp with hp | hp
    ·exact h.ok.pages p hp
    ·have hg : (D.pages.getD q []).length = 128 := by
      rw [List.getD_eq_getElem?_getD, List.getElem?_eq_getElem hq]
      exact h.ok.pages _ (List.getElem_mem _)
     rw [hp, List.length_append, List.length_drop, hg]; omega
   ·have := h.ok.pend w' hw'
    exact ⟨by simpa using this.1, this.2⟩
theorem step_copy_row {P : Program} {ops : Array Oper} {o : Oper} {a : Act} {w : World} {K : Act → World → Prop} {Q : Exit → Act → World → Prop} {E : Prop} (hgd : o.guard = none) (d s : Operand) (dT sT : TypeId)
 (ho : o.op = .call { callee := .builtin .copy, args := #[d, s], argTypes := #[dT, sT] }) (elem : TypeId) (hu : P.underlying dT = some (.slice elem)) (hsz : (P.info? elem).map (·.size) = some 1)
 (sp : Addr) (dLen dCap sLen sCap : Nat) (g off : Nat) (hd : a.eval d = .slice (some ⟨g, off, none⟩) dLen dCap) (hs : a.eval s = .slice (some sp) sLen sCap)
 (cur : List Value) (t : TypeId) (hg : w.heap[g]? = some (.cells cur.toArray t (0, 0))) (cs : List Value) (hn : cs.length = Nat.min sLen dLen)
 (hsrc : ∀ j v, cs[j]? = some v → w.cell? (sp.add j) = some v) (hfit : off + cs.length ≤ cur.length) (h1 : ∀ v ∈ cs, v.oneCell' = true)
 (h : K (a.put o.dst (goInt cs.length)) (w.setRow g (splice cur off cs).toArray)) :
 if Region.wanted o (yielded ops a.tmps) = true then Oper.wp P o a w K Q else E := by
 have hw : Region.wanted o (yielded ops a.tmps) = true := by simp [Region.wanted, hgd]
 rw [if_pos hw]
 have hrun := run_copy_row (P := P) w dT sT o.type elem g off dLen dCap sp sLen sCap cur.toArray t cs hu hsz hg hn hsrc (by simpa using hfit) h1
 have e : (cur.toArray.toList.take off ++ cs ++ cur.toArray.toList.drop (off + cs.length)) = splice cur off cs := by simp [splice]
 rw [e] at hrun
 unfold Oper.wp execOp
 simp only [ho, resolve, invoke, builtin, Sem.run_bind, Sem.run_pure, Result.andThen_ok, List.map_toArray, List.map_cons, List.map_nil, hd, hs, hrun]
 exact h
end
section
open List renaming getElem_toArray → qa, getElem_cons_zero → qb, getElem_cons_succ → qc, setIfInBounds_toArray → qd, set_cons_zero → qe, set_cons_succ → qf
open Go.ChangeShapes Go.WideShapes Go.ChangeAt Go.RowKit
theorem pend_get (ws : List (Nat × List UInt8)) (h : ∀ x ∈ ws, x.2.length = 128) (i : Nat) (hi : i < ws.length) (j : Nat) (u : Value) (hj : (wcells ws[i])[j]? = some u) : (pendCells ws)[i * 129 + j]? = some u := by
 induction ws generalizing i with
 | nil => simp at hi
 | cons x ws ih =>
  have hx : (wcells x).length = 129 := wcells_len x.1 x.2 (h x (by simp))
  have e : pendCells (x :: ws) = wcells x ++ pendCells ws := by simp [pendCells]
  rw [e]
  cases i with
  | zero =>
   rw [List.getElem_cons_zero] at hj
   have hlt := (List.getElem?_eq_some_iff.1 hj).1
   rw [Nat.zero_mul, Nat.zero_add, List.getElem?_append_left hlt]; exact hj
  | succ i =>
   rw [List.getElem_cons_succ] at hj
   rw [List.getElem?_append_right (by omega), hx, show (i + 1) * 129 + j - 129 = i * 129 + j by omega]
   exact ih (fun y hy => h y (by simp [hy])) i (by simpa using hi) hj
theorem pend_range {w : World} {d : Nat} {F : List Nat} {D : DS} {gv pv : Value} (h : Dk w d F D gv pv) (i : Nat) (hi : i < D.pend.length) :
 ∃ Q cap, pv = .slice (some ⟨Q, 0, none⟩) D.pend.length cap ∧ D.pend.length ≤ cap ∧ w.rangeAt Q (i * 129) (wcells D.pend[i]) ∧ Q < w.heap.size ∧ Q ∈ F := by
 have hr := h.pend
 obtain ⟨hl, ⟨rfl, h0⟩ | ⟨Q, cap, cur, rfl, hb, hh, hn, hm, hs, ht⟩⟩ := hr
 ·omega
 ·have hr := h.pend
  refine ⟨Q, cap, rfl, hn, fun j u hj => ?_, World.ownsRow.lt hr Q rfl |>.2, (h.pF Q rfl).1⟩
  have := World.ownsRow.cells hr (g := Q) rfl (i * 129 + j) u (pend_get D.pend (fun x hx => (h.ok.pend x hx).2) i hi j u hj)
  rw [add_plain, Nat.zero_add] at this
  exact this
/-- What settle's loop keeps. -/
def SettleR (w0 : World) (d : Nat) (F : List Nat) (D : DS) (gv pv : Value) (f : Nat → Int) (vi : Value) (wr : World) : Prop :=
 ∃ (i : Nat) (ps : List (List UInt8)), vi = .int .i64 i ∧ i ≤ D.pend.length ∧ ps.length = D.pages.length ∧ Dk wr d F { D with pages := ps } gv pv ∧ settleFrom f i (D.pend.drop i) ps = settleFrom f 0 D.pend D.pages ∧ Touch F w0 wr
theorem run_cut (b o k : Nat) (hk : k ≤ 128) (w : World) : (Instr.sliceAt 79 (.pointer (some ⟨b, o, none⟩)) none (some (.int .i64 (k : Int))) none).run Tryz.prog w = .ok (.slice (some ⟨b, o, none⟩) k 128) w := by
 have ha : Tryz.prog.arrayLen 79 = 128 := by kernel_rfl
 have he : (sizeOf (Tryz.prog.elem 79)).run Tryz.prog w = .ok 1 w := by kernel_rfl
 rw [run_sliceAt_array_h (P := Tryz.prog) w 79 ⟨b, o, none⟩ (by rw [ha]; exact Tryz.underlying79) .i64 (k : Int) (by omega) (by rw [ha]; omega), he, ha]
 simp [slicedAt, add_plain]
theorem size_write : (Tryz.prog.info? 81).map (·.size) = some 129 := by kernel_rfl
/-- A new pending write of zeros in memory. -/
@[irreducible] def zw : Array Value := #[.int .i64 0] ++ Array.replicate 128 (.int .u8 0)
theorem zw_size : zw.size = 129 := by unfold zw; simp
theorem zero_write (w : World) : (zeroValue 81).run Tryz.prog w = .ok (.agg zw) w := by
 unfold zw; kernel_rfl
theorem dk_nopend {w : World} {d : Nat} {F : List Nat} {D : DS} {gv pv : Value} (h : Dk w d F D gv pv) : Dk (w.setCell ⟨d, 1, none⟩ (.slice none 0 0)) d F { D with pend := [] } gv (.slice none 0 0) := by
 have k : Touch [d] w (w.setCell ⟨d, 1, none⟩ (.slice none 0 0)) := (Touch.refl [d] w).set (by simp) 1 _
 exact ⟨h.blk.put 1 _, Row.touch h.pages k fun j hj => by simp; exact (h.gF j hj).2, World.ownsRow_nil _ _ _ _, h.inF, h.gF, (fun j hj => by cases hj), fun j hj => Nat.lt_of_lt_of_le (h.lt j hj) k.size, ⟨h.ok.pages, (fun w hw => by cases hw), h.ok.fuse⟩⟩
theorem there_new (w : World) {n : Nat} (h : n = 129) : (w.alloc (.cells zw 81)).there w.heap.size 0 n := by
 subst h
 intro j hj
 have hb := Blk.new w 81 zw
 rw [Nat.zero_add, hb.cell j, hb.froz j]
 have := zw_size
 exact ⟨by rw [Array.getElem?_eq_getElem (by omega)]; rfl, rfl⟩
theorem setCells_new (w : World) (cs : List Value) (h : cs.length = 129) (hone : ∀ v ∈ cs, v.oneCell' = true) : (w.alloc (.cells zw 81)).setCells w.heap.size 0 cs.toArray.toList = w.alloc (.cells cs.toArray 81) := by
 have h1 : (cs.toArray).all (·.oneCell') = true := all_oneCell_toArray hone
 have hs : (Tryz.prog.info? 81).map (·.size) = some cs.toArray.size := by rw [size_write]; simp [h]
 have a := run_storeVar_new (P := Tryz.prog) w 81 zw cs.toArray hs (by rw [zw_size]; simp [h]) h1
 have b := run_storeVar_mid (P := Tryz.prog) (w.alloc (.cells zw 81)) w.heap.size 0 81 cs.toArray (there_new w (by simpa using h)) hs h1
 rw [a] at b
 injection b with _ b
 exact b.symm
set_option maxRecDepth 100000 in
set_option maxHeartbeats 8000000 in
theorem settle_sync (d : Nat) (F : List Nat) (D : DS) (f : Nat → Int) (w : World) (h : Disk w d F D) (hf : ∀ (i : Nat) (wr : World), Touch F w wr → Calls Tryz.prog 44 #[.int .i64 i] wr fun e w' => e = .returned (.int .i64 (f i)) ∧ wr = w') :
 Calls Tryz.prog 43 #[.pointer (some ⟨d, 0, none⟩), .func (.func 44) #[] #[]] w (Does w d F (dSettle D f) (.tuple #[])) := by
 obtain ⟨gv, pv, hd⟩ := h
 obtain ⟨c0, c1, c2, c3, f0, f1, f2, f3⟩ := hd.cells
 obtain ⟨A, c, rfl, hcl, hcm⟩ := hd.pend.form
 have H := hide hd
 have HFF := hide hf
 clear hd hf
 go_enter Tryz.func43, Tryz.ntmps43
 go_wp2_with fail
 go_loopw [11] (fun i wr => SettleR w d F D gv (.slice A D.pend.length c) f i wr) (fun i _ => D.pend.length - (intOf i).toNat)
 case atStart => exact ⟨0, D.pages, rfl, Nat.zero_le _, rfl, H.out, rfl, Touch.refl _ _⟩
 case round =>
  obtain ⟨i, ps, rfl, hi, hps, hdk, hst, ht⟩ := hrel
  clear c0 c1 c2 c3 f0 f1 f2 f3
  by_cases hlt : i < D.pend.length
  ·obtain ⟨Q, cap, e1, hcap, hrange, hQ, hQF⟩ := pend_range hdk i hlt
   obtain ⟨rfl, rfl⟩ : A = some ⟨Q, 0, none⟩ ∧ c = cap := by injection e1 with e1 e2 e3; exact ⟨e1, e3⟩
   clear e1
   have hok := hdk.ok.pend (D.pend[i]) (List.getElem_mem _)
   have hstep : settleFrom f i (D.pend.drop i) ps = settleFrom f (i + 1) (D.pend.drop (i + 1)) (ps.set (D.pend[i]).1 (mixed (ps.getD (D.pend[i]).1 []) (D.pend[i]).2 (f i))) := by
    rw [List.drop_eq_getElem_cons hlt]; rfl
   have HST := hide (hstep.symm.trans hst)
   have hrg : wr.rangeAt Q (i * 129) (wcells D.pend[i]) := hrange
   generalize hx : D.pend[i] = x at *
   obtain ⟨q, data⟩ := x
   have HRG := hide hrg
   have HW129 := hide (wcells_len q data hok.2)
   have HR71 : Hid ((Tryz.prog.info? 81).map (·.size) = some (wcells (q, data)).length) := hide (by rw [size_write, HW129.out])
   have HDK := hide hdk
   have HT := hide ht
   have HOK := hide hok
   have HPS := hide hps
   have hal := zero_write
   clear hrange hrg hx hstep hst hdk ht hok hps
   obtain ⟨w1, hw1⟩ : ∃ w1, w1 = wr.alloc (.cells (wcells (q, data)).toArray 81) := ⟨_, rfl⟩
   have HST2 : Hid ((wr.alloc (.cells zw 81)).setCells wr.heap.size 0 (wcells (q, data)).toArray.toList = w1) := hide (by rw [hw1]; exact setCells_new wr (wcells (q, data)) HW129.out (hone_wcells q data))
   have HTH : Hid ((wr.alloc (.cells zw 81)).there wr.heap.size 0 (wcells (q, data)).toArray.size) := hide (there_new wr (by simpa using HW129.out))
   have HDD : Hid (Dk w1.drew d F { D with pages := ps } gv (.slice (some ⟨Q, 0, none⟩) D.pend.length c)) := hide (by rw [hw1]; exact HDK.out.touch (S := []) (((Touch.refl [] wr).alloc _).drew) (by simp))
   have HBX : Hid (Blk w1 wr.heap.size 81 (wcells (q, data)).toArray) := hide (by rw [hw1]; exact Blk.new wr _ _)
   have HT1 : Hid (Touch F w w1.drew) := hide (by rw [hw1]; exact (HT.out.alloc _).drew)
   have HBL : Hid (∀ j ∈ F, j ≠ wr.heap.size) := hide (fun j hj e => by have := HDK.out.lt j hj; omega)
   clear hw1
   go_wp2_with (first
    | (refine wpList_load_mid rfl 81 (.tmp 14) rfl Q (i * 129) rfl (wcells (q, data)) _ HRG.out Tryz.underlying81 rfl HR71.out ?_)
    | (refine wpList_store_mid rfl 81 (.tmp 5) (.tmp 15) rfl wr.heap.size 0 (wcells (q, data)).toArray rfl rfl HTH.out (by simpa using HR71.out) (all_oneCell_toArray (hone_wcells q data)) ?_; (first | rw [HST2.out] | (simp only [List.toList_toArray]; rw [HST2.out]))))
   clear hal
   obtain ⟨k, hk⟩ : ∃ k, k = (min (max (f i) 0) 128).toNat := ⟨_, rfl⟩
   have hkz : min (max (f i) 0) 128 = (k : Int) := by omega
   have hk128 : k ≤ 128 := by omega
   obtain ⟨xs, hxs⟩ : ∃ xs, xs = data.take k := ⟨_, rfl⟩
   have hkl : xs.length = k := by rw [hxs, List.length_take, HOK.out.2]; omega
   obtain ⟨P, cp, cur, rfl, hP, hcur, hPF, hnew⟩ := dk_setpage HDD.out q HOK.out.1 xs (by omega)
   have hmix : mixed (ps.getD q []) data (f i) = xs ++ (ps.getD q []).drop xs.length := by unfold mixed; rw [hkl, hxs, hk]
   rw [hmix] at HST
   obtain ⟨np, hnp⟩ : ∃ np, np = ps.length := ⟨_, rfl⟩
   have HDD2 := HDD
   have hgv : (Value.slice (some ⟨P, 0, none⟩) ({ D with pages := ps } : DS).pages.length cp) = .slice (some ⟨P, 0, none⟩) np cp := by rw [hnp]
   rw [hgv] at HDD hnew
   have hqn : (q : Int) < (np : Int) := by rw [hnp]; have := HOK.out.1; omega
   have hqn2 : q < np := by rw [hnp]; exact HOK.out.1
   have HP := hide hP
   have HNEW := hide hnew
   have HU8 : Hid ((Tryz.prog.info? 5).map (·.size) = some 1) := hide (by kernel_rfl)
   have HNK : Hid ((xs.map bv).length = Nat.min k 128) := hide (by rw [List.length_map, hkl]; exact (Nat.min_eq_left hk128).symm)
   have HSRC : Hid (∀ j v, (xs.map bv)[j]? = some v → w1.drew.cell? ((⟨wr.heap.size, 1, none⟩ : Addr).add j) = some v) := hide (fun j v hj => by
    rw [add_plain, HBX.out.drew.cell]
    rw [Nat.add_comm 1 j]
    simp only [wcells, List.getElem?_toArray, List.getElem?_cons_succ]
    have hlt := (List.getElem?_eq_some_iff.1 hj).1
    rw [List.length_map, hkl] at hlt
    rw [← hj, List.getElem?_map, List.getElem?_map, hxs, List.getElem?_take, if_pos hlt])
   have HFIT : Hid (q * 128 + (xs.map bv).length ≤ cur.length) := hide (by rw [List.length_map, hkl]; omega)
   have HONE : Hid (∀ v ∈ xs.map bv, v.oneCell' = true) := hide (fun v hv => by obtain ⟨x, _, rfl⟩ := List.mem_map.1 hv; exact bv_one x)
   have HOTH : Hid ((w1.drew.setRow P (splice cur (q * 128) (xs.map bv)).toArray).cell? ⟨wr.heap.size, 0, none⟩ = some (.int .i64 q)) := hide (by
    have hb : Blk (w1.drew.setRow P (splice cur (q * 128) (xs.map bv)).toArray) wr.heap.size 81 (wcells (q, data)).toArray := (setRow_other w1.drew P wr.heap.size _ (fun e => HBL.out P hPF e.symm)).trans HBX.out.drew
    exact hb.cell 0)
   have HT2 : Hid (Touch F w (w1.drew.setRow P (splice cur (q * 128) (xs.map bv)).toArray)) := hide (HT1.out.trans ⟨rfl, rfl, rfl, by simp, fun j hj hne => setRow_other w1.drew P j _ (fun e => hne (e ▸ hPF))⟩)
   have HNP := hide hnp
   clear hP hnew hk hmix hkl hcur HDD2 hgv hnp hPF hxs
   refine wp_region_held_drew (S := (fun w' => w'.cell? ⟨d, 0, none⟩ = some (.slice (some ⟨P, 0, none⟩) np cp) ∧ w'.cell? ⟨wr.heap.size, 0, none⟩ = some (.int .i64 q))) (by kernel_rfl) (⟨HDD.out.blk.cell 0, HBX.out.drew.cell 0⟩) (fun hS0 => ?_)
   refine tk 0 ?_
   refine tk 1 ?_
   refine tk 2 ?_
   refine tk 3 ?_
   refine tk 4 ?_
   refine tk 5 ?_
   refine tk 6 ?_
   refine tk 7 ?_
   refine tk 8 ?_
   refine tk 9 ?_
   refine tk 10 ?_
   refine tr1 11 fun K hK => ?_
   go_simp
   refine (HFF.out i _ HT1.out).mono ?_
   rintro e w3 ⟨rfl, rfl⟩
   refine hK.out _ _ (⟨HDD.out.blk.cell 0, HBX.out.drew.cell 0⟩) (fun hS1 => ?_)
   clear hK K
   try simp only [Act.put, qa, qb, qc, qd, qe, qf]
   have hcut := fun w => run_cut wr.heap.size 1 k hk128 w
   refine tk 12 ?_
   refine tk 13 ?_
   refine tk 14 ?_
   clear hcut
   refine tr1 15 fun K hK => ?_
   refine step_copy_row rfl (.tmp 23) (.tmp 30) 35 35 rfl 5 Tryz.underlying35 HU8.out ⟨wr.heap.size, 1, none⟩ 128 128 k 128 P (q * 128) rfl rfl cur _ HP.out (xs.map bv) HNK.out HSRC.out HFIT.out HONE.out ?_
   refine hK.out _ _ (⟨HNEW.out.blk.cell 0, HOTH.out⟩) (fun hS2 => ?_)
   clear hK K
   try simp only [Act.put, qa, qb, qc, qd, qe, qf]
   refine wpAnyH_done (by kernel_rfl) ?_ _
   clear hS0 hS1 hS2
   go_wp2_with fail
   go_roundw
   case rel => exact ⟨i + 1, _, by go_num, hlt, by rw [List.length_set]; exact HPS.out, by have := HNEW.out; rw [HNP.out] at this; exact this, HST.out, HT2.out⟩
   case measure => simp [intOf]; omega
  ·obtain rfl : i = D.pend.length := by omega
   have hps2 : ps = settleFrom f 0 D.pend D.pages := by rw [← hst, List.drop_length]; rfl
   obtain ⟨c0, c1, c2, c3, f0, f1, f2, f3⟩ := hdk.cells
   have HDK := hide hdk
   have HT := hide ht
   have HPS2 := hide hps2
   clear hdk ht hps2 hst
   go_wp2_with fail
   go_end0
   refine ⟨rfl, F, ⟨gv, .slice none 0 0, ?_⟩, HT.out.trans (touch_set HDK.out.inF 1 _), fun j hj => .inl hj⟩
   have := dk_nopend HDK.out
   rw [HPS2.out] at this
   exact this
set_option maxRecDepth 100000 in
set_option maxHeartbeats 8000000 in
theorem settle_crash (s : Nat) (d : Nat) (F : List Nat) (D : DS) (f : Nat → Int) (w : World) (h : Disk w d F D) (hf : ∀ (i : Nat) (wr : World), Touch F w wr → Calls Tryz.prog 67 #[.int .i64 i, .pointer (some ⟨s, 0, none⟩)] wr fun e w' => e = .returned (.int .i64 (f i)) ∧ wr = w') :
 Calls Tryz.prog 43 #[.pointer (some ⟨d, 0, none⟩), .func (.func 67) #[] #[.pointer (some ⟨s, 0, none⟩)]] w (Does w d F (dSettle D f) (.tuple #[])) := by
 obtain ⟨gv, pv, hd⟩ := h
 obtain ⟨c0, c1, c2, c3, f0, f1, f2, f3⟩ := hd.cells
 obtain ⟨A, c, rfl, hcl, hcm⟩ := hd.pend.form
 have H := hide hd
 have HFF := hide hf
 clear hd hf
 go_enter Tryz.func43, Tryz.ntmps43
 go_wp2_with fail
 go_loopw [11] (fun i wr => SettleR w d F D gv (.slice A D.pend.length c) f i wr) (fun i _ => D.pend.length - (intOf i).toNat)
 case atStart => exact ⟨0, D.pages, rfl, Nat.zero_le _, rfl, H.out, rfl, Touch.refl _ _⟩
 case round =>
  obtain ⟨i, ps, rfl, hi, hps, hdk, hst, ht⟩ := hrel
  clear c0 c1 c2 c3 f0 f1 f2 f3
  by_cases hlt : i < D.pend.length
  ·obtain ⟨Q, cap, e1, hcap, hrange, hQ, hQF⟩ := pend_range hdk i hlt
   obtain ⟨rfl, rfl⟩ : A = some ⟨Q, 0, none⟩ ∧ c = cap := by injection e1 with e1 e2 e3; exact ⟨e1, e3⟩
   clear e1
   have hok := hdk.ok.pend (D.pend[i]) (List.getElem_mem _)
   have hstep : settleFrom f i (D.pend.drop i) ps = settleFrom f (i + 1) (D.pend.drop (i + 1)) (ps.set (D.pend[i]).1 (mixed (ps.getD (D.pend[i]).1 []) (D.pend[i]).2 (f i))) := by
    rw [List.drop_eq_getElem_cons hlt]; rfl
   have HST := hide (hstep.symm.trans hst)
   have hrg : wr.rangeAt Q (i * 129) (wcells D.pend[i]) := hrange
   generalize hx : D.pend[i] = x at *
   obtain ⟨q, data⟩ := x
   have HRG := hide hrg
   have HW129 := hide (wcells_len q data hok.2)
   have HR71 : Hid ((Tryz.prog.info? 81).map (·.size) = some (wcells (q, data)).length) := hide (by rw [size_write, HW129.out])
   have HDK := hide hdk
   have HT := hide ht
   have HOK := hide hok
   have HPS := hide hps
   have hal := zero_write
   clear hrange hrg hx hstep hst hdk ht hok hps
   obtain ⟨w1, hw1⟩ : ∃ w1, w1 = wr.alloc (.cells (wcells (q, data)).toArray 81) := ⟨_, rfl⟩
   have HST2 : Hid ((wr.alloc (.cells zw 81)).setCells wr.heap.size 0 (wcells (q, data)).toArray.toList = w1) := hide (by rw [hw1]; exact setCells_new wr (wcells (q, data)) HW129.out (hone_wcells q data))
   have HTH : Hid ((wr.alloc (.cells zw 81)).there wr.heap.size 0 (wcells (q, data)).toArray.size) := hide (there_new wr (by simpa using HW129.out))
   have HDD : Hid (Dk w1.drew d F { D with pages := ps } gv (.slice (some ⟨Q, 0, none⟩) D.pend.length c)) := hide (by rw [hw1]; exact HDK.out.touch (S := []) (((Touch.refl [] wr).alloc _).drew) (by simp))
   have HBX : Hid (Blk w1 wr.heap.size 81 (wcells (q, data)).toArray) := hide (by rw [hw1]; exact Blk.new wr _ _)
   have HT1 : Hid (Touch F w w1.drew) := hide (by rw [hw1]; exact (HT.out.alloc _).drew)
   have HBL : Hid (∀ j ∈ F, j ≠ wr.heap.size) := hide (fun j hj e => by have := HDK.out.lt j hj; omega)
   clear hw1
   go_wp2_with (first
    | (refine wpList_load_mid rfl 81 (.tmp 14) rfl Q (i * 129) rfl (wcells (q, data)) _ HRG.out Tryz.underlying81 rfl HR71.out ?_)
    | (refine wpList_store_mid rfl 81 (.tmp 5) (.tmp 15) rfl wr.heap.size 0 (wcells (q, data)).toArray rfl rfl HTH.out (by simpa using HR71.out) (all_oneCell_toArray (hone_wcells q data)) ?_; (first | rw [HST2.out] | (simp only [List.toList_toArray]; rw [HST2.out]))))
   clear hal
   obtain ⟨k, hk⟩ : ∃ k, k = (min (max (f i) 0) 128).toNat := ⟨_, rfl⟩
   have hkz : min (max (f i) 0) 128 = (k : Int) := by omega
   have hk128 : k ≤ 128 := by omega
   obtain ⟨xs, hxs⟩ : ∃ xs, xs = data.take k := ⟨_, rfl⟩
   have hkl : xs.length = k := by rw [hxs, List.length_take, HOK.out.2]; omega
   obtain ⟨P, cp, cur, rfl, hP, hcur, hPF, hnew⟩ := dk_setpage HDD.out q HOK.out.1 xs (by omega)
   have hmix : mixed (ps.getD q []) data (f i) = xs ++ (ps.getD q []).drop xs.length := by unfold mixed; rw [hkl, hxs, hk]
   rw [hmix] at HST
   obtain ⟨np, hnp⟩ : ∃ np, np = ps.length := ⟨_, rfl⟩
   have HDD2 := HDD
   have hgv : (Value.slice (some ⟨P, 0, none⟩) ({ D with pages := ps } : DS).pages.length cp) = .slice (some ⟨P, 0, none⟩) np cp := by rw [hnp]
   rw [hgv] at HDD hnew
   have hqn : (q : Int) < (np : Int) := by rw [hnp]; have := HOK.out.1; omega
   have hqn2 : q < np := by rw [hnp]; exact HOK.out.1
   have HP := hide hP
   have HNEW := hide hnew
   have HU8 : Hid ((Tryz.prog.info? 5).map (·.size) = some 1) := hide (by kernel_rfl)
   have HNK : Hid ((xs.map bv).length = Nat.min k 128) := hide (by rw [List.length_map, hkl]; exact (Nat.min_eq_left hk128).symm)
   have HSRC : Hid (∀ j v, (xs.map bv)[j]? = some v → w1.drew.cell? ((⟨wr.heap.size, 1, none⟩ : Addr).add j) = some v) := hide (fun j v hj => by
    rw [add_plain, HBX.out.drew.cell]
    rw [Nat.add_comm 1 j]
    simp only [wcells, List.getElem?_toArray, List.getElem?_cons_succ]
    have hlt := (List.getElem?_eq_some_iff.1 hj).1
    rw [List.length_map, hkl] at hlt
    rw [← hj, List.getElem?_map, List.getElem?_map, hxs, List.getElem?_take, if_pos hlt])
   have HFIT : Hid (q * 128 + (xs.map bv).length ≤ cur.length) := hide (by rw [List.length_map, hkl]; omega)
   have HONE : Hid (∀ v ∈ xs.map bv, v.oneCell' = true) := hide (fun v hv => by obtain ⟨x, _, rfl⟩ := List.mem_map.1 hv; exact bv_one x)
   have HOTH : Hid ((w1.drew.setRow P (splice cur (q * 128) (xs.map bv)).toArray).cell? ⟨wr.heap.size, 0, none⟩ = some (.int .i64 q)) := hide (by
    have hb : Blk (w1.drew.setRow P (splice cur (q * 128) (xs.map bv)).toArray) wr.heap.size 81 (wcells (q, data)).toArray := (setRow_other w1.drew P wr.heap.size _ (fun e => HBL.out P hPF e.symm)).trans HBX.out.drew
    exact hb.cell 0)
   have HT2 : Hid (Touch F w (w1.drew.setRow P (splice cur (q * 128) (xs.map bv)).toArray)) := hide (HT1.out.trans ⟨rfl, rfl, rfl, by simp, fun j hj hne => setRow_other w1.drew P j _ (fun e => hne (e ▸ hPF))⟩)
   have HNP := hide hnp
   clear hP hnew hk hmix hkl hcur HDD2 hgv hnp hPF hxs
   refine wp_region_held_drew (S := (fun w' => w'.cell? ⟨d, 0, none⟩ = some (.slice (some ⟨P, 0, none⟩) np cp) ∧ w'.cell? ⟨wr.heap.size, 0, none⟩ = some (.int .i64 q))) (by kernel_rfl) (⟨HDD.out.blk.cell 0, HBX.out.drew.cell 0⟩) (fun hS0 => ?_)
   refine tk 0 ?_
   refine tk 1 ?_
   refine tk 2 ?_
   refine tk 3 ?_
   refine tk 4 ?_
   refine tk 5 ?_
   refine tk 6 ?_
   refine tk 7 ?_
   refine tk 8 ?_
   refine tk 9 ?_
   refine tk 10 ?_
   refine tr1 11 fun K hK => ?_
   go_simp
   refine (HFF.out i _ HT1.out).mono ?_
   rintro e w3 ⟨rfl, rfl⟩
   refine hK.out _ _ (⟨HDD.out.blk.cell 0, HBX.out.drew.cell 0⟩) (fun hS1 => ?_)
   clear hK K
   try simp only [Act.put, qa, qb, qc, qd, qe, qf]
   have hcut := fun w => run_cut wr.heap.size 1 k hk128 w
   refine tk 12 ?_
   refine tk 13 ?_
   refine tk 14 ?_
   clear hcut
   refine tr1 15 fun K hK => ?_
   refine step_copy_row rfl (.tmp 23) (.tmp 30) 35 35 rfl 5 Tryz.underlying35 HU8.out ⟨wr.heap.size, 1, none⟩ 128 128 k 128 P (q * 128) rfl rfl cur _ HP.out (xs.map bv) HNK.out HSRC.out HFIT.out HONE.out ?_
   refine hK.out _ _ (⟨HNEW.out.blk.cell 0, HOTH.out⟩) (fun hS2 => ?_)
   clear hK K
   try simp only [Act.put, qa, qb, qc, qd, qe, qf]
   refine wpAnyH_done (by kernel_rfl) ?_ _
   clear hS0 hS1 hS2
   go_wp2_with fail
   go_roundw
   case rel => exact ⟨i + 1, _, by go_num, hlt, by rw [List.length_set]; exact HPS.out, by have := HNEW.out; rw [HNP.out] at this; exact this, HST.out, HT2.out⟩
   case measure => simp [intOf]; omega
  ·obtain rfl : i = D.pend.length := by omega
   have hps2 : ps = settleFrom f 0 D.pend D.pages := by rw [← hst, List.drop_length]; rfl
   obtain ⟨c0, c1, c2, c3, f0, f1, f2, f3⟩ := hdk.cells
   have HDK := hide hdk
   have HT := hide ht
   have HPS2 := hide hps2
   clear hdk ht hps2 hst
   go_wp2_with fail
   go_end0
   refine ⟨rfl, F, ⟨gv, .slice none 0 0, ?_⟩, HT.out.trans (touch_set HDK.out.inF 1 _), fun j hj => .inl hj⟩
   have := dk_nopend HDK.out
   rw [HPS2.out] at this
   exact this
end
section
open Go.ChangeShapes Go.WideShapes Go.ChangeAt Go.RowKit
theorem Does.then {w w1 w2 : World} {d : Nat} {F F1 : List Nat} {D : DS} {v : Value} {e : Ending} (ht : Touch F w w1) (hF : ∀ j ∈ F1, j ∈ F ∨ w.heap.size ≤ j) (h : Does w1 d F1 D v e w2) : Does w d F D v e w2 := by
 obtain ⟨he, F2, hd, ht2, hF2⟩ := h
 exact ⟨he, F2, hd, ht.next ht2 hF, fun j hj => by
  rcases hF2 j hj with h | h
  ·exact hF j h
  ·exact .inr (Nat.le_trans ht.size h)⟩
theorem Does.as {w w1 : World} {d : Nat} {F : List Nat} {D : DS} {u v : Value} {e : Ending} (h : Does w d F D u e w1) : ∃ F', Disk w1 d F' D ∧ Touch F w w1 ∧ ∀ j ∈ F', j ∈ F ∨ w.heap.size ≤ j := h.2
theorem sync1_c (i : Nat) (w : World) : Calls Tryz.prog 44 #[.int .i64 i] w fun e w' => e = .returned (.int .i64 128) ∧ w = w' := by
 go_enter Tryz.func44, Tryz.ntmps44
 go_wp2_with fail
 go_ret
 exact ⟨rfl, rfl⟩
set_option maxHeartbeats 1000000 in
theorem sync_c (d : Nat) (F : List Nat) (D : DS) (w : World) (h : Disk w d F D) :
 Calls Tryz.prog 16 #[.pointer (some ⟨d, 0, none⟩)] w (Does w d F (dSync D).1 (.int .i64 (dSync D).2)) := by
 obtain ⟨gv, pv, h⟩ := h
 obtain ⟨c0, c1, c2, c3, f0, f1, f2, f3⟩ := h.cells
 have H := hide h
 clear h
 by_cases hf : D.failed = true
 ·have hr : dSync D = (D, 10) := by unfold dSync; rw [if_pos hf]
  rw [hr]
  rw [hf] at c3
  clear hr hf
  go_enter Tryz.func16, Tryz.ntmps16
  go_wp2_with fail
  go_ret
  exact ⟨rfl, F, ⟨gv, pv, H.out⟩, Touch.refl _ _, fun j hj => .inl hj⟩
 ·rw [Bool.not_eq_true] at hf
  rw [hf] at c3
  have hburn := burn_c d F D w ⟨gv, pv, H.out⟩
  by_cases hb : (dBurn D).2 = 0
  ·have hr : dSync D = (dSettle (dBurn D).1 (fun _ => 128), 0) := by unfold dSync; rw [if_neg (by simp [hf]), if_pos hb]
   rw [hr]
   rw [hb] at hburn
   clear hr hf
   go_enter Tryz.func16, Tryz.ntmps16
   go_wp2_with fail
   refine hburn.mono ?_
   rintro e w1 ⟨rfl, F1, hd1, ht1, hF1⟩
   have hset := settle_sync d F1 (dBurn D).1 (fun _ => 128) w1 hd1 (fun i wr _ => sync1_c i wr)
   clear hburn hd1 hb c0 c1 c2 c3 f0 f1 f2 f3
   go_wp2_with fail
   refine hset.mono ?_
   rintro e w2 ⟨rfl, hs⟩
   clear hset
   go_wp2_with fail
   go_ret
   exact Does.then ht1 hF1 ⟨rfl, hs⟩
  ·have hr : dSync D = dBurn D := by unfold dSync; rw [if_neg (by simp [hf]), if_neg hb]
   rw [hr]
   clear hr hf
   have hb0 : ((dBurn D).2 == 0) = false := by simpa using hb
   generalize hB : dBurn D = B at *
   obtain ⟨D1, z⟩ := B
   dsimp only at *
   clear hB
   go_enter Tryz.func16, Tryz.ntmps16
   go_wp2_with fail
   refine hburn.mono ?_
   rintro e w1 ⟨rfl, hs⟩
   clear hburn c0 c1 c2 c3 f0 f1 f2 f3
   go_wp2_with fail
   go_ret
   exact ⟨rfl, hs⟩
end
section
open Go.ChangeShapes Go.WideShapes Go.ChangeAt Go.RowKit
theorem crash1_c (b d : Nat) (F : List Nat) (D : DS) (u : FrameMode) (w : World) (hb : w.cell? ⟨b, 0, none⟩ = some (.pointer (some ⟨d, 0, none⟩))) (hbF : b ≠ d) (h : Disk w d F D) :
 CallsD Tryz.prog 66 #[.pointer (some ⟨b, 0, none⟩)] u w fun e u' w' => u' = u ∧ Does w d F { D with fuse := -1, failed := false } (.tuple #[]) e w' := by
 obtain ⟨gv, pv, h⟩ := h
 obtain ⟨c0, c1, c2, c3, f0, f1, f2, f3⟩ := h.cells
 have H := hide h
 clear h
 go_enter_d Tryz.func66, Tryz.ntmps66
 go_wp2_with fail
 go_end0
 have H2 := (H.out.fuse (-1) ⟨by omega, by omega⟩).failed false
 exact ⟨rfl, F, ⟨gv, pv, H2⟩, (touch_set H.out.inF 2 _).set (.inl H.out.inF) 3 _, fun j hj => .inl hj⟩
/-- A slice of ints. -/
def Is (w : World) (v : Value) (l : List Int) : Prop :=
 ∃ A c, v = .slice A l.length c ∧ l.length ≤ c ∧ c ≤ maxLen ∧ (∀ x ∈ l, -9223372036854775808 ≤ x ∧ x ≤ 9223372036854775807) ∧ (0 < l.length → ∃ g o, A = some ⟨g, o, none⟩ ∧ g < w.heap.size ∧ w.rangeAt g o (l.map (.int .i64 ·)))
theorem Is.nil (w : World) : Is w (.slice none 0 0) [] := ⟨none, 0, rfl, Nat.le_refl _, by unfold maxLen; omega, (fun x hx => by cases hx), fun h => by simp at h⟩
theorem Is.touch {S : List Nat} {w w' : World} {v : Value} {l : List Int} (h : Is w v l) (k : Touch S w w') (hv : ∀ j, v.ownBlock = some j → j ∉ S) : Is w' v l := by
 obtain ⟨A, c, rfl, h1, h2, h3, h4⟩ := h
 refine ⟨A, c, rfl, h1, h2, h3, fun hl => ?_⟩
 obtain ⟨g, o, rfl, hg, hr⟩ := h4 hl
 have hb := k.block g hg (hv g rfl)
 exact ⟨g, o, rfl, Nat.lt_of_lt_of_le hg k.size, fun j u hj => (World.cell?_of_block hb).trans (hr j u hj)⟩
theorem Is.step {w w' : World} {v : Value} {l : List Int} (h : Is w v l) (hb : Below w.heap.size w w') : Is w' v l := h.touch (Touch.below hb []) (by simp)
theorem crash2_c (b : Nat) (s : Value) (l : List Int) (i : Nat) (w : World) (hb : w.cell? ⟨b, 0, none⟩ = some s) (h : Is w s l) :
 Calls Tryz.prog 67 #[.int .i64 i, .pointer (some ⟨b, 0, none⟩)] w fun e w' => e = .returned (.int .i64 (l.getD i 0)) ∧ w = w' := by
 obtain ⟨A, c, rfl, h1, h2, h3, h4⟩ := h
 by_cases hi : i < l.length
 ·obtain ⟨g, o, rfl, hg, hr⟩ := h4 (by omega)
  have hc := hr i (.int .i64 l[i]) (by simp [hi])
  have e : l.getD i 0 = l[i] := by simp [List.getD, hi]
  rw [e]
  generalize l[i] = x at *
  generalize hn : l.length = n at *
  clear hr h4 h3 e
  go_enter Tryz.func67, Tryz.ntmps67
  go_wp2_with fail
  go_ret
  exact ⟨rfl, rfl⟩
 ·have e : l.getD i 0 = 0 := by simp [List.getD, List.getElem?_eq_none (Nat.le_of_not_lt hi)]
  rw [e]
  generalize hn : l.length = n at *
  clear h4 h3 e
  go_enter Tryz.func67, Tryz.ntmps67
  go_wp2_with fail
  go_ret
  exact ⟨rfl, rfl⟩
set_option maxHeartbeats 1000000 in
theorem crash_c (d : Nat) (F : List Nat) (D : DS) (s : Value) (l : List Int) (w : World) (h : Disk w d F D) (hs : Is w s l) (hF : ∀ j, s.ownBlock = some j → j ∉ F) :
 Calls Tryz.prog 31 #[.pointer (some ⟨d, 0, none⟩), s] w (Does w d F (dCrash D l) (.tuple #[])) := by
 have hmf : ∀ (fn : Fn) (first cap : Array Value) (w : World), (Instr.makeFunc fn first cap).run Tryz.prog w = .ok (.func fn first cap) w := fun _ _ _ _ => rfl
 have H := hide h
 have HS := hide hs
 clear h hs
 obtain ⟨A, c, hsv⟩ : ∃ A c, s = .slice A l.length c := by obtain ⟨A, c, e, _⟩ := HS.out; exact ⟨A, c, e⟩
 generalize hn : l.length = n at hsv
 clear hn
 subst hsv
 go_enter_defers Tryz.func31, Tryz.ntmps31
 go_wp2_with fail
 generalize hw1 : (w.alloc (Obj.cells #[.pointer (some ⟨d, 0, none⟩)] _)).alloc (Obj.cells #[Value.slice A n c] _) = w1
 have kw : Below w.heap.size w w1 := by rw [← hw1]; exact ((Below.refl _ _).alloc (Nat.le_refl _) _).alloc (by simp) _
 have hb0 : w1.cell? ⟨w.heap.size, 0, none⟩ = some (.pointer (some ⟨d, 0, none⟩)) := by rw [← hw1]; simp [go_sem]
 have hb1 : w1.cell? ⟨w.heap.size + 1, 0, none⟩ = some (Value.slice A n c) := by rw [← hw1]; simp [go_sem]
 have hsz : w1.heap.size = w.heap.size + 2 := by rw [← hw1]; simp
 have hdisk := H.out.step kw
 have hsv := HS.out.step kw
 clear hw1
 have hset := settle_crash (w.heap.size + 1) d F D (fun i => l.getD i 0) w1 hdisk (fun i wr ht => by
  have hlt : ∀ j ∈ F, j < w.heap.size := by obtain ⟨gv, pv, h⟩ := H.out; exact h.lt
  exact crash2_c (w.heap.size + 1) _ l i wr ((World.cell?_of_block (ht.block (w.heap.size + 1) (by omega) (fun hh => by have := hlt _ hh; omega))).trans hb1) (hsv.touch ht hF))
 refine hset.mono ?_
 rintro e w2 ⟨rfl, F2, hd2, ht2, hF2⟩
 clear hset
 go_wp2_with fail
 have hlt : ∀ j ∈ F, j < w.heap.size := by obtain ⟨gv, pv, h⟩ := H.out; exact h.lt
 have hinF : d < w.heap.size := by obtain ⟨gv, pv, h⟩ := H.out; exact hlt _ h.inF
 refine leaves_cons (f := 66) (args := #[.pointer (some ⟨w.heap.size, 0, none⟩)]) (by simp) (by simp [go_sem]) ?_
 refine (crash1_c w.heap.size d F2 _ .returning w2 ((World.cell?_of_block (ht2.block w.heap.size (by omega) (fun hh => by have := hlt _ hh; omega))).trans hb0) (by omega) hd2).mono ?_
 rintro e u' w3 ⟨rfl, hdoes⟩
 have hall := Does.then ((Touch.below kw F).trans ht2) (fun j hj => by
  rcases hF2 j hj with h | h
  ·exact .inl h
  ·exact .inr (by omega)) hdoes
 obtain ⟨rfl, hall⟩ := hall
 exact ⟨_, results_none rfl _ _ _, rfl, hall⟩
end
end Go.Proofs.YtpadgkkeihhneaaGreat
