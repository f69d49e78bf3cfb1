/- Free, Append. -/
import Derived.Test.YtpadgkkeihhneaaGreatC21
namespace Go.Proofs.YtpadgkkeihhneaaGreat
set_option maxRecDepth 100000
set_option linter.unusedSimpArgs false
set_option linter.unusedVariables false
open List renaming getElem_toArray → qa, getElem_cons_zero → qb, getElem_cons_succ → qc, setIfInBounds_toArray → qd, set_cons_zero → qe, set_cons_succ → qf
open Go.ChangeShapes Go.WideShapes Go.ChangeAt Go.RowKit
section
variable {P : Program} {w w0 W : World} {S : List Nat} {L M : List (Nat × TypeId × List Value)} {ops : Array Oper} {rest : List Oper} {op : Oper} {a : Act} {Q : Exit → Act → World → Prop} {K : Act → World → Prop} {E : Prop}
theorem step_slice_own_n (HO : Own w0 S L w) (hw : Region.wanted op (yielded ops a.tmps) = true) (t e : TypeId) (len : Nat) (parts : Array (Nat × Operand)) (ho : op.op = .buildSlice t len parts) (hu : P.underlying t = some (.slice e)) (cs : List Value)
 (hf : P.builtSlice e len (parts.map fun (i, x) => (i, a.eval x)).toList = some cs.toArray)
 (h : ∀ w' b, b = w.heap.size → Own w0 S (L ++ [(b, e, cs)]) w' → Below w.heap.size w w' → K (a.put op.dst (.slice (some ⟨b, 0, none⟩) len len)) w') : if Region.wanted op (yielded ops a.tmps) = true then Oper.wp P op a w K Q else E := by
 rw [if_pos hw]
 have hp : (Instr.buildSlice t len (parts.map fun (i, x) => (i, a.eval x))).run P w = .ok (.slice (some ⟨w.heap.size, 0, none⟩) len len) (w.alloc (.cells cs.toArray e)) := by
  unfold Program.builtSlice at hf
  cases hie : P.info? e with
  | none => simp [hie] at hf
  | some ie =>
   cases hz : ie.zero with
   | none => simp [hie, hz] at hf
   | some z =>
    simp only [hie, hz] at hf
    split at hf
    ·cases hf
    ·rename_i hn
     exact run_buildSlice w t e len _ _ ie z hu hie hz (fun h => hn (.inl h)) (fun h => hn (.inr h)) hf
 unfold Oper.wp execOp
 simp only [ho, Sem.run_bind, hp, Result.andThen_ok]
 exact h _ _ rfl (HO.push (Blk.new w e cs.toArray) ((Below.refl _ _).alloc (Nat.le_refl _) _)) ((Below.refl _ _).alloc (Nat.le_refl _) _)
theorem step_store_f (hw : Region.wanted op (yielded ops a.tmps) = true) (ty : TypeId) (x y : Operand) (ho : op.op = .store ty x y) (g i : Nat) (t : TypeId) (cs : List Value) (v : Value)
 (hx : a.eval x = .pointer (some ⟨g, i, none⟩)) (hy : a.eval y = v) (hv : v.oneCell' = true) (hb : Blk w g t cs.toArray) (hi : i < cs.length) (hs : (P.info? ty).map (·.size) = some 1)
 (h : ∀ w', Blk w' g t (cs.set i v).toArray → Touch [g] w w' → w'.heap.size = w.heap.size → K (a.put op.dst undef) w') : if Region.wanted op (yielded ops a.tmps) = true then Oper.wp P op a w K Q else E := by
 rw [if_pos hw]
 have hr := run_store_own (P := P) (ty := ty) (o := i) (fits_one hv) hb (by simp; omega) hs (by simpa using hv)
 have h2 := Blk.setCells [v] i w _ hb (by simp; omega)
 have e : (cs.toArray.toList.take i ++ [v] ++ cs.toArray.toList.drop (i + [v].length)) = cs.set i v := splice_set i v hi
 rw [e] at h2
 unfold Oper.wp execOp
 simp only [ho, hx, hy, Sem.run_bind, hr, Result.andThen_ok]
 exact h _ h2 (touch_setCells w g i [v]).1 (touch_setCells w g i [v]).2
theorem step_append_strs {v : Value} {l : List (List UInt8)} (hw : Region.wanted op (yielded ops a.tmps) = true) (s x : Operand) (ho : op.op = .call { callee := .builtin .append, args := #[s, x], argTypes := #[49, 49] })
 (hv : Strs w v l) (hs : a.eval s = v) {g c : Nat} {t : List UInt8} (hx : a.eval x = .slice (some ⟨g, 0, none⟩) 1 c) (hc : w.cell? ⟨g, 0, none⟩ = some (sv t)) (hlen : l.length ≤ 1000000)
 (h : ∀ v' w', Strs w' v' (l ++ [t]) → w.grownBy w' v.ownBlock → (v'.ownBlock = v.ownBlock ∨ v'.ownBlock = some w.heap.size) → K (a.put op.dst v') w') : if Region.wanted op (yielded ops a.tmps) = true then Oper.wp Tryz.prog op a w K Q else E := by
 rw [if_pos hw]
 obtain ⟨v', w', hr, h2, h3, h4⟩ := run_append_strs op.type hv g c t hc hlen
 unfold Oper.wp execOp
 simp only [ho, resolve, invoke, builtin, Sem.run_bind, Sem.run_pure, Result.andThen_ok, List.map_toArray, List.map_cons, List.map_nil, hs, hx, hr]
 exact h v' w' h2 h3 h4
end
/-- The journal's parts, its cells as they lie. -/
structure JrC (w : World) (g d : Nat) (F : List Nat) (D : DS) (cs : List Value) (rv : Value) (l : List (List UInt8)) : Prop where
 blk : Blk w g 89 cs.toArray
 recs : Strs w rv l
 gF : g ∉ F
 rF : ∀ j, rv.ownBlock = some j → j ∉ F ∧ j ≠ g
 lt : ∀ j ∈ F, j < w.heap.size
 disk : Disk w d F D
theorem Jr.c {w : World} {g d : Nat} {F : List Nat} {D : DS} {J : JS} {rv : Value} (h : Jr w g d F D J rv) : JrC w g d F D (jcells d J rv) rv J.records := ⟨h.blk, h.recs, h.gF, h.rF, h.lt, h.disk⟩
theorem JrC.jr {w : World} {g d : Nat} {F : List Nat} {D : DS} {J : JS} {rv : Value} {cs : List Value} {l : List (List UInt8)} (h : JrC w g d F D cs rv l) (hc : cs = jcells d J rv) (hl : l = J.records) : Jr w g d F D J rv := by
 subst hc hl
 exact ⟨h.blk, h.recs, h.gF, h.rF, h.lt, h.disk⟩
theorem JrC.cells {w : World} {g d : Nat} {F : List Nat} {D : DS} {rv : Value} {cs : List Value} {l : List (List UInt8)} (h : JrC w g d F D cs rv l) : ∀ j, w.cell? ⟨g, j, none⟩ = cs[j]? := fun j => by rw [h.blk.cell j, List.getElem?_toArray]
theorem JrC.step {w w' : World} {g d : Nat} {F : List Nat} {D : DS} {rv : Value} {cs : List Value} {l : List (List UInt8)} (h : JrC w g d F D cs rv l) (k : Below w.heap.size w w') : JrC w' g d F D cs rv l :=
 ⟨h.blk.step k, h.recs.step k, h.gF, h.rF, fun j hj => Nat.lt_of_lt_of_le (h.lt j hj) k.size, h.disk.step k⟩
theorem JrC.put {w w' : World} {g d : Nat} {F : List Nat} {D : DS} {rv : Value} {cs cs' : List Value} {l : List (List UInt8)} (h : JrC w g d F D cs rv l) (k : Touch [g] w w') (hb : Blk w' g 89 cs'.toArray) : JrC w' g d F D cs' rv l :=
 ⟨hb, h.recs.touch k (fun j hj => by simp; exact (h.rF j hj).2), h.gF, h.rF, fun j hj => Nat.lt_of_lt_of_le (h.lt j hj) k.size, h.disk.touch k (fun j hj => by simp; exact fun e => h.gF (e ▸ hj))⟩
theorem JrC.appended {w w' : World} {g d : Nat} {F : List Nat} {D : DS} {rv v' : Value} {cs : List Value} {l l' : List (List UInt8)} (h : JrC w g d F D cs rv l) (hs : Strs w' v' l') (hg : w.grownBy w' rv.ownBlock) (hw : v'.ownBlock = rv.ownBlock ∨ v'.ownBlock = some w.heap.size) : JrC w' g d F D cs v' l' := by
 have ht := Touch.grown hg
 have hlt := h.blk.lt
 refine ⟨h.blk.touch ht (fun hm => ?_), hs, h.gF, fun j hj => ?_, fun j hj => Nat.lt_of_lt_of_le (h.lt j hj) ht.size, h.disk.touch ht (fun j hj hm => ?_)⟩
 ·simp at hm; exact (h.rF g hm).2 rfl
 ·rcases hw with e | e
  ·rw [e] at hj; exact h.rF j hj
  ·rw [e] at hj
   injection hj with hj
   subst hj
   exact ⟨fun hm => by have := h.lt _ hm; omega, by omega⟩
 ·simp at hm; exact (h.rF j hm).1 hj
/-- Within what is known of a journal. -/
structure JOk (D : DS) (J : JS) : Prop where
 turn : J.turn ≤ 1099511628000
 used : J.used ≤ half D
 recs : J.records.length ≤ 500000
set_option maxHeartbeats 2000000 in
theorem free_c (g d : Nat) (F : List Nat) (D : DS) (J : JS) (rv : Value) (w : World) (h : Jr w g d F D J rv) (hs : D.Sz) (ho : JOk D J) :
 Calls Tryz.prog 56 #[.pointer (some ⟨g, 0, none⟩)] w fun e w' => e = .returned (.int .i64 (jFree D J)) ∧ Below w.heap.size w w' := by
 have k1 : w.cell? ⟨g, 1, none⟩ = some (.int .i64 J.turn) := h.cells 1
 have k4 : w.cell? ⟨g, 4, none⟩ = some (.int .i64 J.used) := h.cells 4
 have HB := hide (below_drew w)
 have HC : Hid (∀ X : World, Hd X g d F D → Calls Tryz.prog 69 #[.pointer (some ⟨g, 0, none⟩)] X fun e w' => e = .returned (.int .i64 (half D)) ∧ X = w') := hide (fun X hX => half_c g d F D X hX hs)
 have HD := hide h.hd.drew
 have hu := ho.used
 have hh := half_le hs
 unfold jFree
 clear h hs ho
 generalize J.turn = t at *
 generalize J.used = u at *
 generalize half D = hf at *
 by_cases ht : t = 0
 ·subst ht
  rw [if_pos rfl]
  go_enter Tryz.func56, Tryz.ntmps56
  go_wp2_with fail
  go_ret
  exact ⟨rfl, Below.refl _ _⟩
 ·rw [if_neg ht]
  obtain ⟨zt, hzt⟩ : ∃ z : Int, (t : Int) = z := ⟨_, rfl⟩
  obtain ⟨zu, hzu⟩ : ∃ z : Int, (u : Int) = z := ⟨_, rfl⟩
  obtain ⟨zh, hzh⟩ : ∃ z : Int, (hf : Int) = z := ⟨_, rfl⟩
  have HZ : Hid (((hf - u : Nat) : Int) = zh - zu) := hide (by omega)
  have hne : (zt == 0) = false := by simp; omega
  have hne2 : ¬ zt = 0 := by omega
  have b0 : 0 ≤ zu := by omega
  have b1 : zu ≤ zh := by omega
  have b2 : zh ≤ 1000000 := by omega
  rw [hzt] at k1
  rw [hzu] at k4
  rw [hzh] at HC
  rw [HZ.out]
  have hw1 : IntKind.i64.wrap (zh - zu) = zh - zu := IntWalk.i64_in _ (by omega)
  clear hzt hzu hzh ht hu hh
  go_enter Tryz.func56, Tryz.ntmps56
  go_wp2_with fail
  refine wp_region_held_drew (S := fun W => W.cell? ⟨g, 4, none⟩ = some (.int .i64 zu)) (by kernel_rfl) (k4) (fun hS0 => ?_)
  refine tk 0 ?_
  refine tk 2 ?_
  refine tk 3 ?_
  refine tk 4 ?_
  refine tk 5 ?_
  refine tr1 1 fun K hK => ?_
  go_simp
  refine (HC.out _ HD.out).mono ?_
  rintro e w5 ⟨rfl, rfl⟩
  refine hK.out _ _ (k4) (fun hS5 => ?_)
  clear hK K
  try simp only [Act.put, qa, qb, qc, qd, qe, qf]
  refine tk 6 ?_
  refine tk 7 ?_
  refine wpAnyH_done (by kernel_rfl) ?_ _
  go_wp2_with fail
  go_ret
  exact ⟨rfl, HB.out⟩
theorem tail_v {goal : Prop} {G I : Value → World → Prop} (main : (∀ v w, I v w → G v w) → goal) (tl : ∀ v w, I v w → G v w) : goal := main tl
theorem Jr.k1 {w : World} {g d : Nat} {F : List Nat} {D : DS} {J : JS} {rv : Value} (h : Jr w g d F D J rv) {z : Int} (hz : (J.turn : Int) = z) : w.cell? ⟨g, 1, none⟩ = some (.int .i64 z) := by rw [← hz]; exact h.cells 1
theorem Jr.k4 {w : World} {g d : Nat} {F : List Nat} {D : DS} {J : JS} {rv : Value} (h : Jr w g d F D J rv) {z : Int} (hz : (J.used : Int) = z) : w.cell? ⟨g, 4, none⟩ = some (.int .i64 z) := by rw [← hz]; exact h.cells 4
theorem Strs.one {w : World} {v : Value} {l : List (List UInt8)} (h : Strs w v l) : v.oneCell' = true := by obtain ⟨A, m, c, rfl, _⟩ := h.formN; rfl
/-- The journal in block g, all that it has in the blocks of G. -/
def Jn (w : World) (g d : Nat) (G : List Nat) (D : DS) (J : JS) : Prop := ∃ F rv, Jr w g d F D J rv ∧ (∀ j ∈ F, j ∈ G) ∧ (∀ j, rv.ownBlock = some j → j ∈ G) ∧ g ∈ G ∧ ∀ j ∈ G, j < w.heap.size
def JDoes (w : World) (g d : Nat) (G : List Nat) (r : DS × JS × Int) (e : Ending) (w' : World) : Prop := e = .returned (.int .i64 r.2.2) ∧ ∃ G', Jn w' g d G' r.1 r.2.1 ∧ Touch G w w' ∧ ∀ j ∈ G', j ∈ G ∨ w.heap.size ≤ j
theorem Jr.jn {w w' : World} {g d : Nat} {F G : List Nat} {D : DS} {J : JS} {rv : Value} (h : Jr w' g d F D J rv) (hg : g ∈ G) (hF : ∀ j ∈ F, j ∈ G ∨ w.heap.size ≤ j) (hr : ∀ j, rv.ownBlock = some j → j ∈ G ∨ w.heap.size ≤ j) (ht : Touch G w w') :
 ∃ G', Jn w' g d G' D J ∧ Touch G w w' ∧ ∀ j ∈ G', j ∈ G ∨ w.heap.size ≤ j := by
 refine ⟨g :: (F ++ rv.ownBlock.toList), ⟨F, rv, h, fun j hj => by simp [hj], fun j hj => by simp [hj], by simp, fun j hj => ?_⟩, ht, fun j hj => ?_⟩
 ·rcases List.mem_cons.1 hj with rfl | hj
  ·exact h.glt
  ·rcases List.mem_append.1 hj with hj | hj
   ·exact h.lt j hj
   ·exact h.rlt j (by simpa using hj)
 ·rcases List.mem_cons.1 hj with rfl | hj
  ·exact .inl hg
  ·rcases List.mem_append.1 hj with hj | hj
   ·exact hF j hj
   ·exact hr j (by simpa using hj)
set_option maxHeartbeats 8000000 in
theorem jappend_c (g d : Nat) (G : List Nat) (D : DS) (J : JS) (s : List UInt8) (S : ByteArray) (hS : S = ⟨s.toArray⟩) (hl : s.length ≤ 1000000) (w : World) (h : Jn w g d G D J) (hs : D.Sz) (hp : D.pend.length ≤ 80000) (ho : JOk D J) :
 Calls Tryz.prog 36 #[.pointer (some ⟨g, 0, none⟩), .string S] w (JDoes w g d G (jAppend D J s)) := by
 obtain ⟨F, rv, h, hFG, hrG, hgG, hG⟩ := h
 obtain ⟨A, n, c, rfl, hn, hnc, hcm⟩ := h.recs.formN
 have HJ := hide h
 have HS := hide hs
 have HP := hide hp
 have HO := hide ho
 have HL := hide hl
 have HG := hide (And.intro hgG hrG)
 have HFG := hide hFG
 have HN : Hid (n = J.records.length) := hn
 have HSV : Hid ((.string S : Value) = sv s) := hide (by rw [hS]; rfl)
 have HRL : Hid (J.records.length ≤ 1000000) := hide (by have := ho.recs; omega)
 obtain ⟨q, hq⟩ : ∃ q, pagesN s.length = q := ⟨_, rfl⟩
 obtain ⟨zl, hzl⟩ : ∃ z : Int, (S.size : Int) = z := ⟨_, rfl⟩
 obtain ⟨zq, hzq⟩ : ∃ z : Int, (q : Int) = z := ⟨_, rfl⟩
 have HPF : Hid (∀ W, Calls Tryz.prog 37 #[.int .i64 zl] W fun e w' => e = .returned (.int .i64 zq) ∧ W = w') := hide (fun W => by
  have e : (S.size : Int) = (s.length : Int) := by rw [hS]; rfl
  rw [← hzl, e, ← hzq, ← hq]; exact pages_fn _ (by omega) W)
 have q0 : 0 ≤ zq := by omega
 have q2 : zq ≤ 10417 := by rw [← hzq, ← hq]; unfold pagesN; omega
 have HQ := hide (And.intro hq hzq)
 obtain ⟨zt, hzt⟩ : ∃ z : Int, (J.turn : Int) = z := ⟨_, rfl⟩
 obtain ⟨zu, hzu⟩ : ∃ z : Int, (J.used : Int) = z := ⟨_, rfl⟩
 have HK := hide (And.intro hzt hzu)
 have t0 : 0 ≤ zt := by omega
 have u0 : 0 ≤ zu := by omega
 have u1 : zu ≤ 1000000 := by have := ho.used; have := half_le hs; omega
 have n1 : (n : Int) ≤ 1000000 := by have := HN.out; have := ho.recs; omega
 have k1 := h.k1 hzt
 have k4 := h.k4 hzu
 have k5 : w.cell? ⟨g, 5, none⟩ = some (.bool J.broken) := h.cells 5
 clear hS hl h hs hp ho hFG hrG hgG hG hn hq hzq hzt hzu
 cases hb : J.broken with
 | true =>
  have HR : Hid (jAppend D J s = (D, J, 9)) := hide (by unfold jAppend; rw [if_pos (.inl hb)])
  rw [hb] at k5
  rw [HR.out]
  clear hb
  go_enter Tryz.func36, Tryz.ntmps36
  go_wp2_with fail
  refine (HPF.out _).mono ?_
  rintro e w1 ⟨rfl, rfl⟩
  go_wp2_with fail
  go_ret
  exact ⟨rfl, HJ.out.jn HG.out.1 (fun j hj => .inl (HFG.out j hj)) (fun j hj => .inl (HG.out.2 j hj)) (Touch.refl _ _)⟩
 | false =>
  rw [hb] at k5
  by_cases ht : zt = 0
  ·have HR : Hid (jAppend D J s = (D, J, 9)) := hide (by unfold jAppend; rw [if_pos (.inr (by have := HK.out.1; omega))])
   rw [HR.out]
   subst ht
   clear hb
   go_enter Tryz.func36, Tryz.ntmps36
   go_wp2_with fail
   refine (HPF.out _).mono ?_
   rintro e w1 ⟨rfl, rfl⟩
   go_wp2_with fail
   go_ret
   exact ⟨rfl, HJ.out.jn HG.out.1 (fun j hj => .inl (HFG.out j hj)) (fun j hj => .inl (HG.out.2 j hj)) (Touch.refl _ _)⟩
  ·have htb : (zt == 0) = false := by simpa using ht
   obtain ⟨zf, hzf⟩ : ∃ z : Int, (jFree D J : Int) = z := ⟨_, rfl⟩
   have HFC : Hid (∀ X : World, Jr X g d F D J (.slice A n c) → Calls Tryz.prog 56 #[.pointer (some ⟨g, 0, none⟩)] X fun e w' => e = .returned (.int .i64 zf) ∧ Below X.heap.size X w') := hide (fun X hX => by rw [← hzf]; exact free_c g d F D J _ X hX HS.out HO.out)
   have HZF := hide hzf
   have HNB : Hid (¬ (J.broken = true ∨ J.turn = 0)) := hide (by rw [hb]; intro x; rcases x with x | x; cases x; have := HK.out.1; omega)
   have HBF := hide hb
   clear hzf hb
   by_cases hfr : zf < zq
   ·have HR : Hid (jAppend D J s = (D, J, 8)) := hide (by unfold jAppend; rw [if_neg HNB.out, if_pos (by have := HQ.out; have := HZF.out; omega)])
    rw [HR.out]
    go_enter Tryz.func36, Tryz.ntmps36
    go_wp2_with fail
    refine (HPF.out _).mono ?_
    rintro e w1 ⟨rfl, rfl⟩
    go_wp2_with fail
    refine (HFC.out _ HJ.out).mono ?_
    rintro e w2 ⟨rfl, hb2⟩
    replace HJ := hide (HJ.out.step hb2)
    have HT2 := hide (Touch.below hb2 G)
    clear hb2
    go_wp2_with fail
    go_ret
    exact ⟨rfl, HJ.out.jn HG.out.1 (fun j hj => .inl (HFG.out j hj)) (fun j hj => .inl (HG.out.2 j hj)) HT2.out⟩
   ·have hfr2 : zq ≤ zf := by omega
    have HNF : Hid (¬ jFree D J < pagesN s.length) := hide (by have := HQ.out; have := HZF.out; omega)
    have HPC : Hid (∀ X, Jr X g d F D J (.slice A n c) → Calls Tryz.prog 70 #[.pointer (some ⟨g, 0, none⟩), .int .i64 zt, .int .i64 ((n : Int) + 1), .int .i64 zu, .string S] X (PutR X g d F (jPut D J.turn (J.records.length + 1) J.used s) J (.slice A n c))) := hide (fun X hX => by
     have e : ((n : Int) + 1) = ((J.records.length + 1 : Nat) : Int) := by rw [HN.out]; rfl
     rw [e, ← HK.out.1, ← HK.out.2]
     exact jput_c g d F D J _ J.turn (J.records.length + 1) J.used s S (by have := HSV.out; unfold sv at this; injection this) (by have := HO.out.turn; omega) (by have := HO.out.recs; omega) (by have := HO.out.used; have := half_le HS.out; omega) HL.out X hX HS.out HP.out)
    clear hfr
    have hw1 : IntKind.i64.wrap ((n : Int) + 1) = (n : Int) + 1 := IntWalk.i64_in _ (by omega)
    have hw2 : IntKind.i64.wrap (zu + zq) = zu + zq := IntWalk.i64_in _ (by omega)
    go_enter Tryz.func36, Tryz.ntmps36
    go_wp2_with fail
    refine (HPF.out _).mono ?_
    rintro e w1 ⟨rfl, rfl⟩
    go_wp2_with fail
    refine (HFC.out _ HJ.out).mono ?_
    rintro e w2 ⟨rfl, hb2⟩
    replace HJ := hide (HJ.out.step hb2)
    have HT2 := hide (Touch.below hb2 G)
    clear hb2 k1 k4 k5
    go_wp2_with fail
    refine wp_region_held_drew (S := fun W => W.cell? ⟨g, 1, none⟩ = some (.int .i64 zt) ∧ W.cell? ⟨g, 3, none⟩ = some (.slice A n c) ∧ W.cell? ⟨g, 4, none⟩ = some (.int .i64 zu)) (by kernel_rfl) (⟨HJ.out.k1 HK.out.1, HJ.out.cells 3, HJ.out.k4 HK.out.2⟩) (fun hS0 => ?_)
    replace HJ := hide (HJ.out.step (below_drew _))
    refine tk 0 ?_
    refine tk 1 ?_
    refine tk 2 ?_
    refine tk 3 ?_
    refine tk 4 ?_
    refine tk 5 ?_
    refine tk 6 ?_
    refine tk 7 ?_
    refine tk 8 ?_
    refine tk 9 ?_
    refine tk 10 ?_
    refine tk 11 ?_
    refine tk 12 ?_
    refine tk 13 ?_
    refine tk 14 ?_
    refine tk 15 ?_
    refine tr1 16 fun K hK => ?_
    go_simp
    refine (HPC.out _ HJ.out).mono ?_
    rintro e w5 ⟨rfl, F1, hj1, ht1, hF1⟩
    have HJ1 := hide hj1
    have HT1 := hide ht1
    have HF1 := hide hF1
    clear hj1 ht1 hF1 HJ
    refine hK.out _ _ (⟨HJ1.out.k1 HK.out.1, HJ1.out.cells 3, HJ1.out.k4 HK.out.2⟩) (fun hS16 => ?_)
    clear hK K
    try simp only [Act.put, qa, qb, qc, qd, qe, qf]
    refine tk 17 ?_
    refine wpAnyH_done (by kernel_rfl) ?_ _
    have HJA : Hid (jAppend D J s = if (jPut D J.turn (J.records.length + 1) J.used s).2 = 0 then ((jPut D J.turn (J.records.length + 1) J.used s).1, { J with records := J.records ++ [s], used := J.used + pagesN s.length }, 0)
     else ((jPut D J.turn (J.records.length + 1) J.used s).1, { J with broken := true }, (jPut D J.turn (J.records.length + 1) J.used s).2)) := hide (by conv => lhs; unfold jAppend; rw [if_neg HNB.out, if_neg HNF.out])
    replace HT1 : Hid (Touch G w w5) := hide ((HT2.out.drew).next HT1.out (fun j hj => .inl (by rcases List.mem_cons.1 hj with rfl | hj; exact HG.out.1; exact HFG.out j hj)))
    replace HF1 : Hid (∀ j ∈ F1, j ∈ G ∨ w.heap.size ≤ j) := hide (fun j hj => by rcases HF1.out j hj with h1 | h1; exact .inl (HFG.out j h1); exact .inr (Nat.le_trans HT2.out.size h1))
    clear HPC HT2
    replace HJA := hide HJA.out
    generalize jPut D J.turn (J.records.length + 1) J.used s = r at *
    obtain ⟨D1, zc⟩ := r
    dsimp only at HJ1 HJA ⊢
    by_cases hz : zc = 0
    ·subst hz
     have HJE : Hid (({ J with broken := J.broken || decide ((0 : Int) ≠ 0) } : JS) = J) := hide (by cases J; simp)
     rw [HJE.out] at HJ1
     have HC := hide HJ1.out.c
     have HU : Hid ((jcells d J (.slice A n c))[4]? = some (.int .i64 zu)) := hide (by rw [← HK.out.2]; rfl)
     clear HJ1
     go_wp2_with fail
     have HCa := hide (HC.out.step (below_drew _))
     have HCb := hide (HCa.out.step ((Below.refl _ w5.drew).alloc (Nat.le_refl _) (.cells #[.string S] 9)))
     replace HT1 := hide (HT1.out.drew)
     replace HT1 := hide (HT1.out.alloc (.cells #[.string S] 9))
     clear HC
     have HS1 : Hid ((w5.alloc (.cells #[.string S] 9)).drew.cell? ⟨w5.heap.size, 0, none⟩ = some (sv s)) := hide (by rw [← HSV.out]; exact (Blk.new w5 9 #[.string S]).cell 0)
     have HCx : Hid (JrC (w5.alloc (.cells #[.string S] 9)).drew g d F1 D1 (jcells d J (.slice A n c)) (.slice A n c) J.records) := HCb
     have HTx : Hid (Touch G w (w5.alloc (.cells #[.string S] 9)).drew) := HT1
     clear HT1
     refine wp_region_held_drew (S := fun _ => True) (by kernel_rfl) trivial (fun hS0 => ?_)
     refine tk 0 ?_
     refine tk 1 ?_
     refine tk 2 ?_
     refine tk 3 ?_
     refine tk 4 ?_
     refine tk 6 ?_
     refine tk 9 ?_
     refine tk 10 ?_
     refine tk 11 ?_
     refine tk 13 ?_
     refine' tail_v (I := fun v' W => JrC W g d F1 D1 (jcells d J (.slice A n c)) v' (J.records ++ [s]) ∧ Touch G w W ∧ v'.oneCell' = true ∧ ∀ j, v'.ownBlock = some j → j ∈ G ∨ w.heap.size ≤ j) (fun tail => ?_) ?_
     rotate_left
     ·refine wpAnyH_ready (rs := [5, 7, 12]) (by kernel_rfl) (by simp) ?_
      refine AllReadyH.cons rfl (fun K hK => ?_) (AllReadyH.cons rfl (fun K hK => ?_) (AllReadyH.cons rfl (fun K hK => ?_) AllReadyH.nil))
      ·have cq : w5.cell? ⟨g, 3, none⟩ = some (Value.slice A n c) := HCa.out.cells 3
       go_simp
       refine hK.out _ _ trivial (fun _ => ?_)
       clear hK K
       try simp only [Act.put, qa, qb, qc, qd, qe, qf]
       refine wpAnyH_ready (rs := [7, 12]) (by kernel_rfl) (by simp) ?_
       refine AllReadyH.cons rfl (fun K hK => ?_) (AllReadyH.cons rfl (fun K hK => ?_) AllReadyH.nil)
       ·go_simp
        refine hK.out _ _ trivial (fun _ => ?_)
        clear hK K
        try simp only [Act.put, qa, qb, qc, qd, qe, qf]
        refine wpAnyH_ready (rs := [8, 12]) (by kernel_rfl) (by simp) ?_
        refine AllReadyH.cons rfl (fun K hK => ?_) (AllReadyH.cons rfl (fun K hK => ?_) AllReadyH.nil)
        ·refine step_append_strs rfl (.tmp 52) (.tmp 54) rfl HCx.out.recs rfl rfl HS1.out HRL.out ?_
         intro v' w6 hst hgr hwh
         have HC6 := hide (HCx.out.appended hst hgr hwh)
         have HV1 := hide hst.one
         have HVG : Hid (∀ j, v'.ownBlock = some j → j ∈ G ∨ w.heap.size ≤ j) := hide (fun j hj => by rcases hwh with e | e; exact .inl (HG.out.2 j (e ▸ hj)); rw [e] at hj; injection hj with hj; subst hj; exact .inr HTx.out.size)
         have HT6 := hide (HTx.out.next (Touch.grown hgr) (fun j hj => .inl (HG.out.2 j (by simpa using hj))))
         clear hst hgr hwh
         refine hK.out _ _ trivial (fun _ => ?_)
         clear hK K
         try simp only [Act.put, qa, qb, qc, qd, qe, qf]
         refine tr1 12 fun K hK => ?_
         have cq : w6.cell? ⟨g, 4, none⟩ = some (Value.int .i64 zu) := (HC6.out.cells 4).trans HU.out
         go_simp
         refine hK.out _ _ trivial (fun _ => ?_)
         clear hK K
         try simp only [Act.put, qa, qb, qc, qd, qe, qf]
         clear cq
         refine tk 14 ?_
         exact tail v' w6 ⟨HC6.out, HT6.out, HV1.out, HVG.out⟩
        ·have cq : (w5.alloc (.cells #[.string S] 9)).cell? ⟨g, 4, none⟩ = some (Value.int .i64 zu) := (HCb.out.cells 4).trans HU.out
         go_simp
         refine hK.out _ _ trivial (fun _ => ?_)
         clear hK K
         try simp only [Act.put, qa, qb, qc, qd, qe, qf]
         clear cq
         refine tk 14 ?_
         refine tr1 8 fun K hK => ?_
         refine step_append_strs rfl (.tmp 52) (.tmp 54) rfl HCx.out.recs rfl rfl HS1.out HRL.out ?_
         intro v' w6 hst hgr hwh
         have HC6 := hide (HCx.out.appended hst hgr hwh)
         have HV1 := hide hst.one
         have HVG : Hid (∀ j, v'.ownBlock = some j → j ∈ G ∨ w.heap.size ≤ j) := hide (fun j hj => by rcases hwh with e | e; exact .inl (HG.out.2 j (e ▸ hj)); rw [e] at hj; injection hj with hj; subst hj; exact .inr HTx.out.size)
         have HT6 := hide (HTx.out.next (Touch.grown hgr) (fun j hj => .inl (HG.out.2 j (by simpa using hj))))
         clear hst hgr hwh
         refine hK.out _ _ trivial (fun _ => ?_)
         clear hK K
         try simp only [Act.put, qa, qb, qc, qd, qe, qf]
         exact tail v' w6 ⟨HC6.out, HT6.out, HV1.out, HVG.out⟩
       ·have cq : w5.cell? ⟨g, 4, none⟩ = some (Value.int .i64 zu) := (HCa.out.cells 4).trans HU.out
        go_simp
        refine hK.out _ _ trivial (fun _ => ?_)
        clear hK K
        try simp only [Act.put, qa, qb, qc, qd, qe, qf]
        clear cq
        refine tk 14 ?_
        refine tr1 7 fun K hK => ?_
        go_simp
        refine hK.out _ _ trivial (fun _ => ?_)
        clear hK K
        try simp only [Act.put, qa, qb, qc, qd, qe, qf]
        refine tr1 8 fun K hK => ?_
        refine step_append_strs rfl (.tmp 52) (.tmp 54) rfl HCx.out.recs rfl rfl HS1.out HRL.out ?_
        intro v' w6 hst hgr hwh
        have HC6 := hide (HCx.out.appended hst hgr hwh)
        have HV1 := hide hst.one
        have HVG : Hid (∀ j, v'.ownBlock = some j → j ∈ G ∨ w.heap.size ≤ j) := hide (fun j hj => by rcases hwh with e | e; exact .inl (HG.out.2 j (e ▸ hj)); rw [e] at hj; injection hj with hj; subst hj; exact .inr HTx.out.size)
        have HT6 := hide (HTx.out.next (Touch.grown hgr) (fun j hj => .inl (HG.out.2 j (by simpa using hj))))
        clear hst hgr hwh
        refine hK.out _ _ trivial (fun _ => ?_)
        clear hK K
        try simp only [Act.put, qa, qb, qc, qd, qe, qf]
        exact tail v' w6 ⟨HC6.out, HT6.out, HV1.out, HVG.out⟩
      ·go_simp
       refine hK.out _ _ trivial (fun _ => ?_)
       clear hK K
       try simp only [Act.put, qa, qb, qc, qd, qe, qf]
       refine wpAnyH_ready (rs := [5, 12]) (by kernel_rfl) (by simp) ?_
       refine AllReadyH.cons rfl (fun K hK => ?_) (AllReadyH.cons rfl (fun K hK => ?_) AllReadyH.nil)
       ·have cq : (w5.alloc (.cells #[.string S] 9)).cell? ⟨g, 3, none⟩ = some (Value.slice A n c) := HCb.out.cells 3
        go_simp
        refine hK.out _ _ trivial (fun _ => ?_)
        clear hK K
        try simp only [Act.put, qa, qb, qc, qd, qe, qf]
        refine wpAnyH_ready (rs := [8, 12]) (by kernel_rfl) (by simp) ?_
        refine AllReadyH.cons rfl (fun K hK => ?_) (AllReadyH.cons rfl (fun K hK => ?_) AllReadyH.nil)
        ·refine step_append_strs rfl (.tmp 52) (.tmp 54) rfl HCx.out.recs rfl rfl HS1.out HRL.out ?_
         intro v' w6 hst hgr hwh
         have HC6 := hide (HCx.out.appended hst hgr hwh)
         have HV1 := hide hst.one
         have HVG : Hid (∀ j, v'.ownBlock = some j → j ∈ G ∨ w.heap.size ≤ j) := hide (fun j hj => by rcases hwh with e | e; exact .inl (HG.out.2 j (e ▸ hj)); rw [e] at hj; injection hj with hj; subst hj; exact .inr HTx.out.size)
         have HT6 := hide (HTx.out.next (Touch.grown hgr) (fun j hj => .inl (HG.out.2 j (by simpa using hj))))
         clear hst hgr hwh
         refine hK.out _ _ trivial (fun _ => ?_)
         clear hK K
         try simp only [Act.put, qa, qb, qc, qd, qe, qf]
         refine tr1 12 fun K hK => ?_
         have cq : w6.cell? ⟨g, 4, none⟩ = some (Value.int .i64 zu) := (HC6.out.cells 4).trans HU.out
         go_simp
         refine hK.out _ _ trivial (fun _ => ?_)
         clear hK K
         try simp only [Act.put, qa, qb, qc, qd, qe, qf]
         clear cq
         refine tk 14 ?_
         exact tail v' w6 ⟨HC6.out, HT6.out, HV1.out, HVG.out⟩
        ·have cq : (w5.alloc (.cells #[.string S] 9)).cell? ⟨g, 4, none⟩ = some (Value.int .i64 zu) := (HCb.out.cells 4).trans HU.out
         go_simp
         refine hK.out _ _ trivial (fun _ => ?_)
         clear hK K
         try simp only [Act.put, qa, qb, qc, qd, qe, qf]
         clear cq
         refine tk 14 ?_
         refine tr1 8 fun K hK => ?_
         refine step_append_strs rfl (.tmp 52) (.tmp 54) rfl HCx.out.recs rfl rfl HS1.out HRL.out ?_
         intro v' w6 hst hgr hwh
         have HC6 := hide (HCx.out.appended hst hgr hwh)
         have HV1 := hide hst.one
         have HVG : Hid (∀ j, v'.ownBlock = some j → j ∈ G ∨ w.heap.size ≤ j) := hide (fun j hj => by rcases hwh with e | e; exact .inl (HG.out.2 j (e ▸ hj)); rw [e] at hj; injection hj with hj; subst hj; exact .inr HTx.out.size)
         have HT6 := hide (HTx.out.next (Touch.grown hgr) (fun j hj => .inl (HG.out.2 j (by simpa using hj))))
         clear hst hgr hwh
         refine hK.out _ _ trivial (fun _ => ?_)
         clear hK K
         try simp only [Act.put, qa, qb, qc, qd, qe, qf]
         exact tail v' w6 ⟨HC6.out, HT6.out, HV1.out, HVG.out⟩
       ·have cq : (w5.alloc (.cells #[.string S] 9)).cell? ⟨g, 4, none⟩ = some (Value.int .i64 zu) := (HCb.out.cells 4).trans HU.out
        go_simp
        refine hK.out _ _ trivial (fun _ => ?_)
        clear hK K
        try simp only [Act.put, qa, qb, qc, qd, qe, qf]
        clear cq
        refine tk 14 ?_
        refine tr1 5 fun K hK => ?_
        have cq : (w5.alloc (.cells #[.string S] 9)).cell? ⟨g, 3, none⟩ = some (Value.slice A n c) := HCb.out.cells 3
        go_simp
        refine hK.out _ _ trivial (fun _ => ?_)
        clear hK K
        try simp only [Act.put, qa, qb, qc, qd, qe, qf]
        refine tr1 8 fun K hK => ?_
        refine step_append_strs rfl (.tmp 52) (.tmp 54) rfl HCx.out.recs rfl rfl HS1.out HRL.out ?_
        intro v' w6 hst hgr hwh
        have HC6 := hide (HCx.out.appended hst hgr hwh)
        have HV1 := hide hst.one
        have HVG : Hid (∀ j, v'.ownBlock = some j → j ∈ G ∨ w.heap.size ≤ j) := hide (fun j hj => by rcases hwh with e | e; exact .inl (HG.out.2 j (e ▸ hj)); rw [e] at hj; injection hj with hj; subst hj; exact .inr HTx.out.size)
        have HT6 := hide (HTx.out.next (Touch.grown hgr) (fun j hj => .inl (HG.out.2 j (by simpa using hj))))
        clear hst hgr hwh
        refine hK.out _ _ trivial (fun _ => ?_)
        clear hK K
        try simp only [Act.put, qa, qb, qc, qd, qe, qf]
        exact tail v' w6 ⟨HC6.out, HT6.out, HV1.out, HVG.out⟩
      ·have cq : w5.cell? ⟨g, 4, none⟩ = some (Value.int .i64 zu) := (HCa.out.cells 4).trans HU.out
       go_simp
       refine hK.out _ _ trivial (fun _ => ?_)
       clear hK K
       try simp only [Act.put, qa, qb, qc, qd, qe, qf]
       clear cq
       refine tk 14 ?_
       refine wpAnyH_ready (rs := [5, 7]) (by kernel_rfl) (by simp) ?_
       refine AllReadyH.cons rfl (fun K hK => ?_) (AllReadyH.cons rfl (fun K hK => ?_) AllReadyH.nil)
       ·have cq : w5.cell? ⟨g, 3, none⟩ = some (Value.slice A n c) := HCa.out.cells 3
        go_simp
        refine hK.out _ _ trivial (fun _ => ?_)
        clear hK K
        try simp only [Act.put, qa, qb, qc, qd, qe, qf]
        refine tr1 7 fun K hK => ?_
        go_simp
        refine hK.out _ _ trivial (fun _ => ?_)
        clear hK K
        try simp only [Act.put, qa, qb, qc, qd, qe, qf]
        refine tr1 8 fun K hK => ?_
        refine step_append_strs rfl (.tmp 52) (.tmp 54) rfl HCx.out.recs rfl rfl HS1.out HRL.out ?_
        intro v' w6 hst hgr hwh
        have HC6 := hide (HCx.out.appended hst hgr hwh)
        have HV1 := hide hst.one
        have HVG : Hid (∀ j, v'.ownBlock = some j → j ∈ G ∨ w.heap.size ≤ j) := hide (fun j hj => by rcases hwh with e | e; exact .inl (HG.out.2 j (e ▸ hj)); rw [e] at hj; injection hj with hj; subst hj; exact .inr HTx.out.size)
        have HT6 := hide (HTx.out.next (Touch.grown hgr) (fun j hj => .inl (HG.out.2 j (by simpa using hj))))
        clear hst hgr hwh
        refine hK.out _ _ trivial (fun _ => ?_)
        clear hK K
        try simp only [Act.put, qa, qb, qc, qd, qe, qf]
        exact tail v' w6 ⟨HC6.out, HT6.out, HV1.out, HVG.out⟩
       ·go_simp
        refine hK.out _ _ trivial (fun _ => ?_)
        clear hK K
        try simp only [Act.put, qa, qb, qc, qd, qe, qf]
        refine tr1 5 fun K hK => ?_
        have cq : (w5.alloc (.cells #[.string S] 9)).cell? ⟨g, 3, none⟩ = some (Value.slice A n c) := HCb.out.cells 3
        go_simp
        refine hK.out _ _ trivial (fun _ => ?_)
        clear hK K
        try simp only [Act.put, qa, qb, qc, qd, qe, qf]
        refine tr1 8 fun K hK => ?_
        refine step_append_strs rfl (.tmp 52) (.tmp 54) rfl HCx.out.recs rfl rfl HS1.out HRL.out ?_
        intro v' w6 hst hgr hwh
        have HC6 := hide (HCx.out.appended hst hgr hwh)
        have HV1 := hide hst.one
        have HVG : Hid (∀ j, v'.ownBlock = some j → j ∈ G ∨ w.heap.size ≤ j) := hide (fun j hj => by rcases hwh with e | e; exact .inl (HG.out.2 j (e ▸ hj)); rw [e] at hj; injection hj with hj; subst hj; exact .inr HTx.out.size)
        have HT6 := hide (HTx.out.next (Touch.grown hgr) (fun j hj => .inl (HG.out.2 j (by simpa using hj))))
        clear hst hgr hwh
        refine hK.out _ _ trivial (fun _ => ?_)
        clear hK K
        try simp only [Act.put, qa, qb, qc, qd, qe, qf]
        exact tail v' w6 ⟨HC6.out, HT6.out, HV1.out, HVG.out⟩
     intro v' w6 hI
     obtain ⟨hc, ht, hv, hvg⟩ := hI
     clear HCa HCb HCx HTx HS1
     have HC := hide hc
     have HT1 := hide ht
     have HV1 := hide hv
     have HVG := hide hvg
     clear hc ht hv hvg
     refine tk 15 ?_
     refine tk 16 ?_
     refine tr1 17 fun K hK => ?_
     refine step_store_f rfl 49 (.tmp 63) (.tmp 55) rfl g 3 89 _ v' rfl rfl HV1.out HC.out.blk (by simp [jcells]) (by kernel_rfl) ?_
     intro w7 hb7 ht7 _
     replace HC := hide (HC.out.put ht7 hb7)
     replace HT1 := hide (HT1.out.next ht7 (fun j hj => .inl (by simp at hj; subst hj; exact HG.out.1)))
     clear hb7 ht7
     refine hK.out _ _ (trivial) (fun hS2 => ?_)
     clear hK K
     try simp only [Act.put, qa, qb, qc, qd, qe, qf]
     refine tk 18 ?_
     refine tk 19 ?_
     refine tr1 20 fun K hK => ?_
     refine step_store_f rfl 3 (.tmp 65) (.tmp 61) rfl g 4 89 _ (.int .i64 (zu + zq)) rfl rfl rfl HC.out.blk (by simp [jcells]) (by kernel_rfl) ?_
     intro w8 hb8 ht8 _
     replace HC := hide (HC.out.put ht8 hb8)
     replace HT1 := hide (HT1.out.next ht8 (fun j hj => .inl (by simp at hj; subst hj; exact HG.out.1)))
     clear hb8 ht8
     refine hK.out _ _ (trivial) (fun hS5 => ?_)
     clear hK K
     try simp only [Act.put, qa, qb, qc, qd, qe, qf]
     refine wpAnyH_done (by kernel_rfl) ?_ _
     go_wp2_with fail
     go_ret
     have HCE : Hid (((jcells d J (.slice A n c)).set 3 v').set 4 (.int .i64 (zu + zq)) = jcells d { J with records := J.records ++ [s], used := J.used + pagesN s.length } v') := hide (by
      have e : (zu + zq) = ((J.used + pagesN s.length : Nat) : Int) := by have := HQ.out; have := HK.out.2; omega
      rw [e]; rfl)
     have HJB : Hid (jAppend D J s = (D1, { J with records := J.records ++ [s], used := J.used + pagesN s.length }, 0)) := hide (by rw [HJA.out]; exact if_pos (by first | trivial | rfl))
     exact ⟨by rw [HJB.out]; rfl, by rw [HJB.out]; exact (HC.out.jr HCE.out rfl).jn HG.out.1 HF1.out HVG.out HT1.out⟩
    ·have HJE : Hid (({ J with broken := J.broken || decide (zc ≠ 0) } : JS) = { J with broken := true }) := hide (by cases J; simp [hz])
     rw [HJE.out] at HJ1
     go_wp2_with fail
     go_ret
     exact ⟨by rw [HJA.out, if_neg hz]; rfl, by rw [HJA.out, if_neg hz]; exact HJ1.out.jn HG.out.1 HF1.out (fun j hj => .inl (HG.out.2 j hj)) HT1.out⟩
end Go.Proofs.YtpadgkkeihhneaaGreat
