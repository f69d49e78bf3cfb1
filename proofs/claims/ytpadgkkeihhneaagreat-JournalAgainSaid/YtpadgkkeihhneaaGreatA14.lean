/- settle: the pages that it turns. -/
import Derived.Test.YtpadgkkeihhneaaGreatA13
import Derived.Lib.MinMax
import Derived.Laws.CopyOwn
namespace Go.Proofs.YtpadgkkeihhneaaGreat
set_option maxRecDepth 100000
set_option linter.unusedSimpArgs false
set_option linter.unusedVariables false
open Go.ChangeShapes Go.WideShapes Go.ChangeAt Go.RowKit
set_option linter.unusedVariables false

theorem splice_mid {α : Type} (A P C X : List α) (h : X.length ≤ P.length) : splice (A ++ (P ++ C)) A.length X = A ++ ((X ++ P.drop X.length) ++ C) := by
  unfold splice
  rw [List.take_left, List.append_assoc]
  congr 2
  rw [← List.drop_drop, List.drop_left, List.drop_append_of_le_length h]
theorem splice_take {α : Type} (L X : List α) (off m : Nat) (h : off + X.length ≤ m) (hm : m ≤ L.length) : (splice L off X).take m = splice (L.take m) off X := by
  have hA : (L.take off).length = off := by rw [List.length_take]; omega
  unfold splice
  rw [List.take_append, hA, List.take_of_length_le (l := L.take off) (by rw [hA]; omega), List.take_append, List.take_of_length_le (l := X) (by omega), List.take_take, Nat.min_eq_left (by omega), List.drop_take, Nat.sub_sub]
theorem flatten_len (ps : List (List UInt8)) (h : ∀ p ∈ ps, p.length = 128) : ps.flatten.length = ps.length * 128 := by
  induction ps with
  | nil => rfl
  | cons p ps ih => rw [List.flatten_cons, List.length_append, ih (fun x hx => h x (by simp [hx])), h p (by simp), List.length_cons]; omega
theorem pcells_len (ps : List (List UInt8)) (h : ∀ p ∈ ps, p.length = 128) : (pcells ps).length = ps.length * 128 := by unfold pcells; rw [List.length_map, flatten_len ps h]
theorem pcells_set (ps : List (List UInt8)) (h : ∀ p ∈ ps, p.length = 128) (q : Nat) (hq : q < ps.length) (x : List UInt8) (hx : x.length ≤ 128) :
    pcells (ps.set q (x ++ (ps.getD q []).drop x.length)) = splice (pcells ps) (q * 128) (x.map bv) := by
  have hg : ps.getD q [] = ps[q] := by rw [List.getD_eq_getElem?_getD, List.getElem?_eq_getElem hq]; rfl
  have hlq : (ps[q]).length = 128 := h _ (List.getElem_mem _)
  have hA : ((ps.take q).flatten.map bv).length = q * 128 := by
    rw [List.length_map, flatten_len _ (fun p hp => h p (List.mem_of_mem_take hp)), List.length_take, Nat.min_eq_left (by omega)]
  have e1 : pcells ps = (ps.take q).flatten.map bv ++ ((ps[q]).map bv ++ (ps.drop (q + 1)).flatten.map bv) := by
    unfold pcells
    conv => lhs; rw [← List.take_append_drop q ps]
    rw [List.drop_eq_getElem_cons hq, List.flatten_append, List.flatten_cons, List.map_append, List.map_append]
  have e2 : pcells (ps.set q (x ++ (ps.getD q []).drop x.length)) = (ps.take q).flatten.map bv ++ ((x.map bv ++ ((ps[q]).map bv).drop x.length) ++ (ps.drop (q + 1)).flatten.map bv) := by
    unfold pcells
    rw [List.set_eq_take_append_cons_drop, if_pos hq, List.flatten_append, List.flatten_cons, List.map_append, List.map_append, List.map_append, List.map_drop, hg]
  rw [e1, e2]
  have := splice_mid ((ps.take q).flatten.map bv) ((ps[q]).map bv) ((ps.drop (q + 1)).flatten.map bv) (x.map bv) (by rw [List.length_map, List.length_map, hlq]; exact hx)
  rw [hA, List.length_map] at this
  exact this.symm

/-- One page of a disk is turned in place. -/
theorem dk_setpage {w : World} {d : Nat} {F : List Nat} {D : DS} {gv pv : Value} (h : Dk w d F D gv pv) (q : Nat) (hq : q < D.pages.length) (x : List UInt8) (hx : x.length ≤ 128) :
    ∃ P cap cur, gv = .slice (some ⟨P, 0, none⟩) D.pages.length cap ∧ w.heap[P]? = some (.cells cur.toArray 79 (0, 0)) ∧ q * 128 + 128 ≤ cur.length ∧ P ∈ F ∧
      Dk (w.setRow P (splice cur (q * 128) (x.map bv)).toArray) d F { D with pages := D.pages.set q (x ++ (D.pages.getD q []).drop x.length) } gv pv := by
  obtain ⟨hl, ⟨rfl, h0⟩ | ⟨P, cap, cur, rfl, hb, hh, hn, hm, hs, ht⟩⟩ := h.pages
  · omega
  · have hPF := h.gF P rfl
    have hcl : q * 128 + 128 ≤ cur.toList.length := by rw [Array.length_toList, hs]; have : (q + 1) * 128 ≤ cap * 128 := Nat.mul_le_mul_right _ (by omega); omega
    have hsz : (splice cur.toList (q * 128) (x.map bv)).length = cur.size := by
      rw [length_splice _ _ _ (by rw [List.length_map]; omega), Array.length_toList]
    have k : Touch [P] w (w.setRow P (splice cur.toList (q * 128) (x.map bv)).toArray) := ⟨rfl, rfl, rfl, by simp, fun j hj hne => setRow_other w P j _ (by simpa using hne)⟩
    refine ⟨P, cap, cur.toList, rfl, by simpa using hh, hcl, hPF.1, ?_⟩
    refine ⟨h.blk.touch k (by simp; exact fun e => hPF.2 e.symm), ?_, Row.touch h.pend k (fun j hj => by simp; intro e; subst e; exact (h.pF j hj).2.2 rfl), h.inF, h.gF, h.pF, fun j hj => Nat.lt_of_lt_of_le (h.lt j hj) k.size, ?_⟩
    · have hlen : (D.pages.set q (x ++ (D.pages.getD q []).drop x.length)).length = D.pages.length := by simp
      show Row _ _ _ _ (D.pages.set q _).length _
      rw [hlen, pcells_set D.pages h.ok.pages q hq x hx]
      have hpl := pcells_len D.pages h.ok.pages
      refine ⟨by rw [length_splice _ _ _ (by rw [List.length_map, hpl]; have : (q + 1) * 128 ≤ D.pages.length * 128 := Nat.mul_le_mul_right _ (by omega); omega), hpl], .inr ⟨P, cap, _, rfl, hb, setRow_heap w P cur _ _ _ hh, hn, hm, by rw [List.size_toArray, hsz, hs], ?_⟩⟩
      have : (q + 1) * 128 ≤ D.pages.length * 128 := Nat.mul_le_mul_right _ (by omega)
      have h2 : D.pages.length * 128 ≤ cap * 128 := Nat.mul_le_mul_right _ hn
      show (splice cur.toList (q * 128) (x.map bv)).take _ = _
      rw [splice_take _ _ _ _ (by rw [List.length_map]; omega) (by rw [Array.length_toList, hs]; exact h2), ht]
    · refine ⟨fun p hp => ?_, fun w' hw' => ?_, h.ok.fuse⟩
      · rcases List.mem_or_eq_of_mem_set hp with hp | hp
        · exact h.ok.pages p hp
        · have hg : (D.pages.getD q []).length = 128 := by
            rw [List.getD_eq_getElem?_getD, List.getElem?_eq_getElem hq]
            exact h.ok.pages _ (List.getElem_mem _)
          rw [hp, List.length_append, List.length_drop, hg]; omega
      · have := h.ok.pend w' hw'
        exact ⟨by simpa using this.1, this.2⟩

theorem step_copy_row {P : Program} {ops : Array Oper} {o : Oper} {a : Act} {w : World} {K : Act → World → Prop} {Q : Exit → Act → World → Prop} {E : Prop} (hgd : o.guard = none) (d s : Operand) (dT sT : TypeId)
    (ho : o.op = .call { callee := .builtin .copy, args := #[d, s], argTypes := #[dT, sT] }) (elem : TypeId) (hu : P.underlying dT = some (.slice elem)) (hsz : (P.info? elem).map (·.size) = some 1)
    (sp : Addr) (dLen dCap sLen sCap : Nat) (g off : Nat) (hd : a.eval d = .slice (some ⟨g, off, none⟩) dLen dCap) (hs : a.eval s = .slice (some sp) sLen sCap)
    (cur : List Value) (t : TypeId) (hg : w.heap[g]? = some (.cells cur.toArray t (0, 0))) (cs : List Value) (hn : cs.length = Nat.min sLen dLen)
    (hsrc : ∀ j v, cs[j]? = some v → w.cell? (sp.add j) = some v) (hfit : off + cs.length ≤ cur.length) (h1 : ∀ v ∈ cs, v.oneCell' = true)
    (h : K (a.put o.dst (goInt cs.length)) (w.setRow g (splice cur off cs).toArray)) :
    if Region.wanted o (yielded ops a.tmps) = true then Oper.wp P o a w K Q else E := by
  have hw : Region.wanted o (yielded ops a.tmps) = true := by simp [Region.wanted, hgd]
  rw [if_pos hw]
  have hrun := run_copy_row (P := P) w dT sT o.type elem g off dLen dCap sp sLen sCap cur.toArray t cs hu hsz hg hn hsrc (by simpa using hfit) h1
  have e : (cur.toArray.toList.take off ++ cs ++ cur.toArray.toList.drop (off + cs.length)) = splice cur off cs := by simp [splice]
  rw [e] at hrun
  unfold Oper.wp execOp
  simp only [ho, resolve, invoke, builtin, Sem.run_bind, Sem.run_pure, Result.andThen_ok, List.map_toArray, List.map_cons, List.map_nil, hd, hs, hrun]
  exact h
end Go.Proofs.YtpadgkkeihhneaaGreat
