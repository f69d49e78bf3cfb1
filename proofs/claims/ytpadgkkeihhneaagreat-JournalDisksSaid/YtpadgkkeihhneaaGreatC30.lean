/- The reference's places, write, Free. -/
import Derived.Test.YtpadgkkeihhneaaGreatC29
namespace Go.Proofs.YtpadgkkeihhneaaGreat
set_option maxRecDepth 100000
set_option linter.unusedSimpArgs false
set_option linter.unusedVariables false
open List renaming getElem_toArray → qa, getElem_cons_zero → qb, getElem_cons_succ → qc, setIfInBounds_toArray → qd, set_cons_zero → qe, set_cons_succ → qf
open Go.ChangeShapes Go.WideShapes Go.ChangeAt Go.RowKit
theorem have_tail3r {goal : Prop} {G I : Nat → Value → Value → World → Prop} (main : (∀ g v u w, I g v u w → G g v u w) → goal) (tl : ∀ g v u w, I g v u w → G g v u w) : goal := main tl
/-- A whole slice of numbers. -/
def Ns (w : World) (base : Nat) (v : Value) (l : List Nat) : Prop := w.ownsRow base 3 1 v l.length (l.map fun n : Nat => Value.int .i64 (n : Int))
theorem Ns.touch {S : List Nat} {w w' : World} {base : Nat} {v : Value} {l : List Nat} (h : Ns w base v l) (k : Touch S w w') (hv : ∀ j, v.ownBlock = some j → j ∉ S) : Ns w' base v l := by
 obtain ⟨hl, h1 | ⟨g, cap, cur, rfl, hb, hgg, r⟩⟩ := h
 ·exact ⟨hl, .inl h1⟩
 ·exact ⟨hl, .inr ⟨g, cap, cur, rfl, hb, (k.block g (Array.getElem?_eq_some_iff.1 hgg).1 (hv g rfl)).trans hgg, r⟩⟩
theorem Ns.step {w w' : World} {base : Nat} {v : Value} {l : List Nat} (h : Ns w base v l) (k : Below w.heap.size w w') : Ns w' base v l := h.touch (Touch.below k []) (by simp)
theorem Ns.mono {w : World} {base base' : Nat} {v : Value} {l : List Nat} (h : Ns w base v l) (hb : base' ≤ base) : Ns w base' v l := by
 obtain ⟨hl, h1 | ⟨g, cap, cur, hv, hg, r⟩⟩ := h
 ·exact ⟨hl, .inl h1⟩
 ·exact ⟨hl, .inr ⟨g, cap, cur, hv, Nat.le_trans hb hg, r⟩⟩
theorem Ns.lt {w : World} {base : Nat} {v : Value} {l : List Nat} (h : Ns w base v l) : ∀ k, v.ownBlock = some k → base ≤ k ∧ k < w.heap.size := World.ownsRow.lt h
theorem Ns.formN {w : World} {base : Nat} {v : Value} {l : List Nat} (h : Ns w base v l) : ∃ A m c, v = .slice A m c ∧ Hid (m = l.length) ∧ m ≤ c ∧ c ≤ 9223372036854775807 := by
 obtain ⟨A, c, e, h2, h3⟩ := Row.form (show Row w 3 1 v l.length _ from h.mono (Nat.zero_le base))
 exact ⟨A, _, c, e, rfl, h2, h3⟩
theorem Ns.at_ {w : World} {base : Nat} {v : Value} {l : List Nat} (h : Ns w base v l) (k : Nat) (hk : k < l.length) : ∃ g c, v = .slice (some ⟨g, 0, none⟩) l.length c ∧ l.length ≤ c ∧ c ≤ 9223372036854775807 ∧ g < w.heap.size ∧ w.cell? ⟨g, k, none⟩ = some (.int .i64 (l.getD k 0 : Nat)) := by
 have h' := h
 obtain ⟨hl, ⟨rfl, h0⟩ | ⟨g, cap, cur, rfl, hb, hgg, hn, hm, r⟩⟩ := h
 ·omega
 ·have hc := World.ownsRow.cellAt (w := w) (cap := cap) h' k (by omega)
  refine ⟨g, cap, rfl, hn, by unfold maxLen at hm; omega, (Array.getElem?_eq_some_iff.1 hgg).1, ?_⟩
  rw [hc]
  simp [hk, List.getD]
theorem Ns.empty (w : World) : Ns (w.alloc (.cells #[] 3)) w.heap.size (.slice (some ⟨w.heap.size, 0, none⟩) 0 0) [] := row_lit w w.heap.size 3 1 0 [] rfl (by unfold maxLen; omega) (Nat.le_refl _)
theorem Ns.lit (w : World) (z : Int) (n : Nat) (h : z = (n : Int)) : Ns (w.alloc (.cells #[.int .i64 z] 3)) w.heap.size (.slice (some ⟨w.heap.size, 0, none⟩) 1 1) [n] := by
 subst h; exact row_lit w w.heap.size 3 1 1 [_] rfl (by unfold maxLen; omega) (Nat.le_refl _)
theorem wpList_append_n {ops : Array Oper} {rest : List Oper} {o : Oper} {a : Act} {w w0 : World} {Q : Exit → Act → World → Prop} (hgd : o.guard = none) (s x : Operand)
 (ho : o.op = .call { callee := .builtin .append, args := #[s, x], argTypes := #[40, 40] }) {base : Nat} {v : Value} {l : List Nat} {z : Int} {t : Nat} (hu : z = (t : Int)) (hs : a.eval s = v) (hv : Ns w0 base v l) (hb : base ≤ w0.heap.size) (hw : w = w0.alloc (.cells #[.int .i64 z] 3))
 (hvx : a.eval x = .slice (some ⟨w0.heap.size, 0, none⟩) 1 1) (hlen : l.length ≤ 1000000)
 (h : ∀ v' w', Ns w' base v' (l ++ [t]) → Below base w0 w' → Touch v.ownBlock.toList w0 w' → (v'.ownBlock = v.ownBlock ∨ ∃ j, v'.ownBlock = some j ∧ w0.heap.size ≤ j) → wpList Tryz.prog ops Q rest (a.put o.dst v') w') : wpList Tryz.prog ops Q (o :: rest) a w := by
 obtain ⟨i0, hi0, hz0, hz1, hz2⟩ := info_parts info_int
 subst hw hu
 have hv2 : (w0.alloc (.cells #[.int .i64 (t : Int)] 3)).ownsRow base 3 1 v l.length (l.map fun n : Nat => Value.int .i64 (n : Int)) := World.ownsRow.alloc hv _
 refine wpList_append_row hgd s x 40 ho base 0 3 i0 _ 1 8 Tryz.underlying40 hi0 hz0 hz1 hz2 rfl (by decide) (n := l.length) (m := 1) hs hv2 hvx (row_lit w0 0 3 1 1 [.int .i64 (t : Int)] rfl (by unfold maxLen; omega) (Nat.zero_le _)) (by intro u hu; rw [List.mem_singleton.1 hu]; rfl) (by unfold maxLen; omega) (by omega) (by rw [World.size_alloc]; omega) ?_
 intro v' w' hr hg ho2
 refine h v' w' ?_ ?_ ?_ ?_
 ·show w'.ownsRow base 3 1 v' (l ++ [t]).length ((l ++ [t]).map _)
  rw [List.length_append, List.map_append]
  exact hr
 ·exact ((Below.refl base w0).alloc hb _).grown hg (by rw [World.size_alloc]; omega) (fun j hj => (hv.lt j hj).1)
 ·have h1 : Touch [] w0 (w0.alloc (.cells #[.int .i64 (t : Int)] 3)) := (Touch.refl [] w0).alloc _
  exact (h1.mono (by simp)).trans (Touch.grown hg)
 ·rcases ho2 with e | e
  ·exact .inl e
  ·exact .inr ⟨_, e, by rw [World.size_alloc]; omega⟩
set_option maxHeartbeats 1000000 in
theorem rplaces_c (from_ n : Nat) (hf : from_ ≤ 1000000) (hn : n ≤ 1000000) (w : World) : Calls Tryz.prog 87 #[.int .i64 from_, .int .i64 n] w fun e w' => ∃ v, e = .returned v ∧ Ns w' w.heap.size v ((List.range n).map (from_ + ·)) ∧ Below w.heap.size w w' := by
 go_enter Tryz.func87, Tryz.ntmps87
 go_wp2_with fail
 go_loopw [5, 6] (fun v5 v6 wr => ∃ k : Nat, k ≤ n ∧ v6 = .int .i64 k ∧ Ns wr w.heap.size v5 ((List.range k).map (from_ + ·)) ∧ Below w.heap.size w wr) (fun _ v6 _ => n - (intOf v6).toNat)
 case atStart => exact ⟨0, by omega, rfl, Ns.empty w, below_al _ _⟩
 case round =>
  obtain ⟨k, hk, rfl, hns, hb⟩ := hrel
  have HN := hide hns
  have HB := hide hb
  clear hns hb
  by_cases hlt : k < n
  ·go_wp2_with (at_builtin; refine wpList_append_n rfl _ _ rfl (l := (List.range k).map (from_ + ·)) (z := (from_ : Int) + (k : Int)) (t := from_ + k) (by omega) rfl HN.out HB.out.size rfl rfl (by simp; omega) ?_; intro v' w' hn' hb' _ _; have HN2 := hide hn'; replace HB := hide (HB.out.trans hb'); clear hn' hb')
   go_roundw
   case rel => exact ⟨k + 1, by omega, by go_num, by have := HN2.out; rwa [List.range_succ, List.map_append], HB.out⟩
   case measure => simp [intOf]; omega
  ·obtain rfl : k = n := by omega
   go_wp2_with fail
   go_ret
   exact ⟨_, rfl, HN.out, HB.out⟩
theorem Rf.plusR {w X : World} {F : List Nat} {v : Value} {D : DS} (h : Rf w F v D) (k : Below w.heap.size w X) (L : List Nat) (hL : ∀ j ∈ L, w.heap.size ≤ j) : Rf X (L ++ F) v D :=
 h.touch (Touch.below k F) fun j hj => by
  rcases List.mem_append.1 hj with e | e
  ·exact .inr (hL j e)
  ·exact .inl e
theorem Rf.lessR {w : World} {F F' : List Nat} {v : Value} {D : DS} (h : Rf w F v D) (hF : ∀ j ∈ F', j ∈ F) : Rf w F' v D := h.touch (Touch.refl _ _) fun j hj => .inl (hF j hj)
theorem Rf.plus3 {w X : World} {F : List Nat} {b3 b6 b9 : Nat} {v : Value} {D : DS} (h : Rf w ([b3, b6] ++ F) v D) (k : Below w.heap.size w X) (hb : b9 = w.heap.size) : Rf X ([b3, b6, b9] ++ F) v D :=
 h.touch (Touch.below k _) (fun j hj => by
  simp only [List.cons_append, List.nil_append, List.mem_cons] at hj ⊢
  rcases hj with e | e | e | e
  ·exact .inl (.inl e)
  ·exact .inl (.inr (.inl e))
  ·exact .inr (by omega)
  ·exact .inl (.inr (.inr e)))
def zdk : List Value := [.slice none 0 0, .slice none 0 0, .int .i64 0, .bool false]
theorem rdk_info : (Tryz.prog.info? 32).map (·.zero) = some (some (.agg zdk.toArray)) := by kernel_rfl
/-- Writes to one page after the other, as far as they go. -/
def WrL (w : World) (F : List Nat) (b3 b6 : Nat) (D : DS) (l : List (Nat × List UInt8)) (k : Nat) (W : World) : Prop :=
 ∃ (E : DS) (A : Option Addr) (n c : Nat) (B : Option Addr) (m b : Nat), k ≤ l.length ∧ Own w [] [(b3, 32, [.slice A n c, .slice B m b, .int .i64 E.fuse, .bool E.failed]), (b6, 32, zdk)] W ∧ Rf W ([b3, b6] ++ F) (rv (.slice A n c) (.slice B m b) E) E ∧ dWrites E (l.drop k) = dWrites D l ∧ E.pend.length ≤ D.pend.length + k ∧ E.pages.length = D.pages.length
set_option maxHeartbeats 8000000 in
theorem rwrite_c (F : List Nat) (v va vp : Value) (D : DS) (l : List (Nat × List UInt8)) (base : Nat) (w : World) (h : Rf w F v D) (hF : ∀ j ∈ F, j < w.heap.size) (ha : Ns w base va (l.map (·.1))) (hp : Pl w base vp (l.map (·.2))) (hl : l.length ≤ 5000) (hd : D.pend.length ≤ 60000) (hg : D.pages.length ≤ 5000) :
 Calls Tryz.prog 55 #[v, va, vp] w (GivesRE w F (dWrites D l)) := by
 obtain ⟨A, n, c, B, m, b, vs, xs, rfl, hk⟩ := h.form
 have HF := hide hF
 have HD : Hid (D.pend.length ≤ 60000 ∧ D.pages.length ≤ 5000) := hide ⟨hd, hg⟩
 have HAT := hide (fun (k : Nat) (hk : k < l.length) => ha.at_ k (by simpa using hk))
 have HPT := hide (fun (k : Nat) (hk : k < l.length) => hp.at_ k (by simpa using hk))
 obtain ⟨Aa, na, ca, rfl, hna, _, _⟩ := ha.formN
 obtain ⟨Ap, np, cp, rfl, hnp, _, _⟩ := hp.formN
 have HNP : Hid (np = l.length) := hide (by have := hnp.out; simpa using this)
 have HNA : Hid (na = l.length) := hide (by have := hna.out; simpa using this)
 have hn5 : np ≤ 5000 := by rw [HNP.out]; exact hl
 have HR := hide h
 clear hk h hF hd hg ha hp hna hnp hl
 have HO := hide (Own.nil w [] (by simp))
 unfold rv
 generalize HFZ : D.fuse = fz
 generalize HFL : D.failed = fl
 have HFF := hide (And.intro HFZ HFL)
 clear HFZ HFL
 go_enter Tryz.func55, Tryz.ntmps55
 go_wp2_with (first
  | ((with_reducible refine at_box 32 (.tmp 0) ?_); refine wpList_box_own HO.out rfl 32 (.tmp 0) rfl ([.slice A n c, .slice B m b, .int .i64 fz, .bool fl]) rfl ?_; intro WA b3 hO; replace HO := hide hO; clear hO)
  | (((with_reducible refine at_alloc 32 ?_); refine wpList_alloc_own HO.out rfl 32 rfl (zdk) rdk_info ?_; intro WA b6 hO; replace HO := hide hO; clear hO; have k3 := HO.out.cells 0 rfl)))
 clear k3
 go_loopw [8] (fun v8 wr => ∃ k : Nat, v8 = .int .i64 k ∧ WrL w F b3 b6 D l k wr) (fun v8 _ => np - (intOf v8).toNat)
 case atStart => exact ⟨0, rfl, D, A, n, c, B, m, b, Nat.zero_le _, by rw [HFF.out.1, HFF.out.2]; exact HO.out, HR.out.plusR HO.out.below [b3, b6] (by intro j hj; simp at hj; rcases hj with rfl | rfl; exact HO.out.new 0 rfl; exact HO.out.new 1 rfl), rfl, Nat.le_refl _, rfl⟩
 case round =>
  clear HO HR HFF
  obtain ⟨k, rfl, D1, A, n, c, B, m, b, hk, hO, hrf, hdw, hpd, hpg⟩ := hrel
  have HO := hide hO
  have HRF := hide hrf
  have HDW := hide hdw
  have HPD := hide (And.intro hpd hpg)
  clear hO hrf hdw hpd hpg
  by_cases hlt : k < np
  ·have hkl : k < l.length := by rw [← HNP.out]; exact hlt
   obtain ⟨ga, ca', hva, ha1, ha2, _, hca⟩ := HAT.out k hkl
   obtain ⟨gp, cp', u, hvp, hp1, hp2, hcp, hbu, hlu⟩ := HPT.out k hkl
   injection hva with hv1 hv2 hv3
   subst hv1 hv3
   clear hv2
   injection hvp with hw1 hw2 hw3
   subst hw1 hw3
   clear hw2
   obtain ⟨x, hx⟩ : ∃ x, l[k]? = some x := ⟨l[k], List.getElem?_eq_getElem hkl⟩
   obtain ⟨pg, dt⟩ := x
   have e1 : (l.map (·.1)).getD k 0 = pg := by simp [List.getD, hx]
   have e2 : (l.map (·.2)).getD k [] = dt := by simp [List.getD, hx]
   rw [e1] at hca
   rw [e2] at hbu
   have hdrop : l.drop k = (pg, dt) :: l.drop (k + 1) := by
    rw [List.drop_eq_getElem_cons hkl]
    congr 1
    have := List.getElem?_eq_getElem hkl
    rw [hx] at this
    injection this with this
    exact this.symm
   have hll : np ≤ ca ∧ ca ≤ 9223372036854775807 := by rw [HNP.out]; simpa using And.intro ha1 ha2
   obtain ⟨zp, hzp⟩ : ∃ z : Int, (pg : Int) = z := ⟨_, rfl⟩
   rw [hzp] at hca
   have HCA : Hid (∀ W, Below w.heap.size w W → W.cell? ⟨ga, k, none⟩ = some (.int .i64 zp)) := hide (fun W hW => (hW.cell (World.block_lt_of_cell? w _ hca)).trans hca)
   have HCP : Hid (∀ W, Below w.heap.size w W → W.cell? ⟨gp, k, none⟩ = some u) := hide (fun W hW => (hW.cell (World.block_lt_of_cell? w _ hcp)).trans hcp)
   have HBU : Hid (∀ W, Below w.heap.size w W → Bs W u dt) := hide (fun W hW => hbu.step hW)
   obtain ⟨E, hE⟩ : ∃ E, E = dWrite D1 pg dt := ⟨_, rfl⟩
   have HPE : Hid (E.1.pend.length ≤ D.pend.length + (k + 1) ∧ E.1.pages.length = D.pages.length) := hide (by rw [hE]; have h1 := dWrite_pend_le D1 pg dt; have h2 := HPD.out; exact ⟨by omega, by rw [dWrite_pages]; exact h2.2⟩)
   have HW2 : Hid ((if E.2 = 0 then dWrites E.1 (l.drop (k + 1)) else E) = dWrites D l) := hide (by rw [← HDW.out, hdrop, dWrites_cons, ← hE])
   obtain ⟨E1, ec⟩ := E
   have HPU : Hid (∀ (W : World) (L : List Nat), Below w.heap.size w W → (∀ j ∈ L, j < W.heap.size) → Rf W (L ++ F) (rv (.slice A n c) (.slice B m b) D1) D1 → Calls Tryz.prog 13 #[rv (.slice A n c) (.slice B m b) D1, .int .i64 zp, u] W (GivesRE W (L ++ F) (E1, ec))) := hide (fun W L hW hj hr => by
    rw [hE, ← hzp]
    exact put_c _ _ D1 pg dt u W hr (fun j hm => by
     rcases List.mem_append.1 hm with hm | hm
     ·exact hj j hm
     ·exact Nat.lt_of_lt_of_le (HF.out j hm) hW.size) (HBU.out W hW) (by have := HPD.out; have := HD.out; have := HNP.out; omega))
   unfold rv at HPU HRF
   generalize D1.fuse = fz at HO HRF HPU
   generalize D1.failed = fl at HO HRF HPU
   have HKK := hide hkl
   have hka : k < na := by rw [HNA.out]; exact hkl
   clear hca hcp hbu hlu hx e1 e2 hdrop hE ha1 ha2 hp1 hp2 HDW hkl hzp
   dsimp only at HPE HW2
   have HO0 := HO
   go_wp2_with fail
   refine wp_region_held_drew (S := fun W => (∀ j, W.cell? ⟨b3, j, none⟩ = ([.slice A n c, .slice B m b, .int .i64 fz, .bool fl] : List Value)[j]?) ∧ W.cell? ⟨ga, k, none⟩ = some (.int .i64 zp) ∧ W.cell? ⟨gp, k, none⟩ = some u) (by kernel_rfl) (⟨HO.out.drew.cells 0 rfl, HCA.out _ HO.out.drew.below, HCP.out _ HO.out.drew.below⟩) (fun hS0 => ?_)
   replace HO := hide HO.out.drew
   replace HRF := hide (HRF.out.step (below_drew _))
   refine ty 0 (.agg ([.slice A n c, .slice B m b, .int .i64 fz, .bool fl] : List Value).toArray) rfl (yieldsIf_load rfl 32 (.tmp 3) rfl b3 0 4 32 ([.slice A n c, .slice B m b, .int .i64 fz, .bool fl]) ([.slice A n c, .slice B m b, .int .i64 fz, .bool fl]) _ (fun w hw => hw.1) (take_all rfl) rfl Tryz.underlying32 rfl rdisk_size) ?_
   refine tk 1 ?_
   refine tk 2 ?_
   refine tk 3 ?_
   refine tk 4 ?_
   refine tk 5 ?_
   refine tk 6 ?_
   refine tk 7 ?_
   refine tk 8 ?_
   refine' have_tail3r (I := fun b9 dv pv W => Own w [] [(b3, 32, [.slice A n c, .slice B m b, .int .i64 fz, .bool fl]), (b6, 32, zdk), (b9, 32, zdk)] W ∧ Rf W ([b3, b6, b9] ++ F) (rv dv pv E1) E1) (fun tail => ?_) ?_
   rotate_left
   refine wpAnyH_ready (rs := [9, 13]) (by kernel_rfl) (by simp) ?_
   refine AllReadyH.cons rfl (fun K hK => ?_) (AllReadyH.cons rfl (fun K hK => ?_) (AllReadyH.nil))
   ·go_simp
    refine (HPU.out _ [b3, b6] HO.out.below (by simp only [List.mem_cons, List.not_mem_nil, or_false, forall_eq_or_imp, forall_eq]; exact ⟨(HO.out.blk 0 rfl).lt, (HO.out.blk 1 rfl).lt⟩) HRF.out).mono ?_
    rintro e w5 ⟨v5, rfl, hr5, hb5⟩
    obtain ⟨dv5, pv5, vs5, xs5, rfl, hk5⟩ := hr5
    replace HO := hide (HO.out.step hb5)
    have HR5 : Hid (Rf w5 ([b3, b6] ++ F) (rv dv5 pv5 E1) E1) := hide ⟨_, _, _, _, rfl, hk5⟩
    unfold rv
    try dsimp only
    clear hk5 hb5
    refine hK.out _ _ (⟨HO.out.cells 0 rfl, HCA.out _ HO.out.below, HCP.out _ HO.out.below⟩) (fun _ => ?_)
    clear hK K
    try simp only [Act.put, qa, qb, qc, qd, qe, qf]
    refine tk 10 ?_
    refine tk 11 ?_
    refine tk 12 ?_
    refine tr1 13 fun K hK => ?_
    ·refine step_alloc_own_n HO.out rfl 32 rfl zdk rdk_info ?_
     intro WA b9 hb hO hbel
     replace HR5 := hide (HR5.out.plus3 hbel hb)
     replace HO := hide hO
     clear hO hbel hb
     refine hK.out _ _ (⟨HO.out.cells 0 rfl, HCA.out _ HO.out.below, HCP.out _ HO.out.below⟩) (fun _ => ?_)
     clear hK K
     try simp only [Act.put, qa, qb, qc, qd, qe, qf]
     exact tail b9 _ _ _ ⟨HO.out, HR5.out⟩
   ·refine step_alloc_own_n HO.out rfl 32 rfl zdk rdk_info ?_
    intro WA b9 hb hO hbel
    replace HRF := hide (HRF.out.plus3 hbel hb)
    replace HO := hide hO
    clear hO hbel hb
    refine hK.out _ _ (⟨HO.out.cells 0 rfl, HCA.out _ HO.out.below, HCP.out _ HO.out.below⟩) (fun _ => ?_)
    clear hK K
    try simp only [Act.put, qa, qb, qc, qd, qe, qf]
    refine tr1 9 fun K hK => ?_
    ·go_simp
     refine (HPU.out _ [b3, b6, b9] HO.out.below (by simp only [List.mem_cons, List.not_mem_nil, or_false, forall_eq_or_imp, forall_eq]; exact ⟨(HO.out.blk 0 rfl).lt, (HO.out.blk 1 rfl).lt, (HO.out.blk 2 rfl).lt⟩) HRF.out).mono ?_
     rintro e w5 ⟨v5, rfl, hr5, hb5⟩
     obtain ⟨dv5, pv5, vs5, xs5, rfl, hk5⟩ := hr5
     replace HO := hide (HO.out.step hb5)
     have HR5 : Hid (Rf w5 ([b3, b6, b9] ++ F) (rv dv5 pv5 E1) E1) := hide ⟨_, _, _, _, rfl, hk5⟩
     unfold rv
     try dsimp only
     clear hk5 hb5
     refine hK.out _ _ (⟨HO.out.cells 0 rfl, HCA.out _ HO.out.below, HCP.out _ HO.out.below⟩) (fun _ => ?_)
     clear hK K
     try simp only [Act.put, qa, qb, qc, qd, qe, qf]
     refine tk 10 ?_
     refine tk 11 ?_
     refine tk 12 ?_
     exact tail b9 _ _ _ ⟨HO.out, HR5.out⟩
   ·intro b9 dv pv WT hI
    obtain ⟨hO, hr5⟩ := hI
    obtain ⟨A5, n5, c5, B5, m5, b5, vs5, xs5, he5, hk5⟩ := hr5.form
    unfold rv at he5
    injection he5 with he5
    have h1 := congrArg (fun a : Array Value => a[0]?) he5
    have h2 := congrArg (fun a : Array Value => a[1]?) he5
    simp at h1 h2
    subst h1 h2
    replace HO := hide hO
    have HR5 := hide hr5
    clear hO hr5 HRF hk5 he5
    unfold rv at HR5
    generalize HEQ : E1.fuse = fz5 at *
    generalize HEL : E1.failed = fl5 at *
    have hSS : (fun W => (∀ j, W.cell? ⟨b3, j, none⟩ = ([.slice A n c, .slice B m b, .int .i64 fz, .bool fl] : List Value)[j]?) ∧ W.cell? ⟨ga, k, none⟩ = some (.int .i64 zp) ∧ W.cell? ⟨gp, k, none⟩ = some u) WT := ⟨HO.out.cells 0 rfl, HCA.out _ HO.out.below, HCP.out _ HO.out.below⟩
    refine tr1 14 fun K hK => ?_
    refine step_store_own_t HO.out rfl 32 (.tmp 9) (.tmp 28) rfl 2 _ 0 _ _ ([.slice A5 n5 c5, .slice B5 m5 b5, .int .i64 fz5, .bool fl5]) ([.slice A5 n5 c5, .slice B5 m5 b5, .int .i64 fz5, .bool fl5]) rfl (.agg ([.slice A5 n5 c5, .slice B5 m5 b5, .int .i64 fz5, .bool fl5] : List Value).toArray) rfl rfl (fits_agg _) (by simp [zdk]) (splice_all rfl) rdisk_size rfl ?_
    intro WA hO _ ht
    replace HR5 := hide (HR5.out.touch (ht.mono (by simp)) (fun j hj => .inl hj))
    replace HO := hide hO
    clear hO ht
    refine hK.out _ _ (⟨HO.out.cells 0 rfl, HCA.out _ HO.out.below, HCP.out _ HO.out.below⟩) (fun _ => ?_)
    clear hK K
    try simp only [Act.put, qa, qb, qc, qd, qe, qf]
    refine tk 15 ?_
    refine wpAnyH_done (by kernel_rfl) ?_ _
    clear hSS
    by_cases he0 : ec = 0
    ·have hd : (ec != 0) = false := by simpa using he0
     have HW3 : Hid (dWrites E1 (l.drop (k + 1)) = dWrites D l) := hide (by have := HW2.out; rwa [if_pos he0] at this)
     go_wp2_with (first
 | ((with_reducible refine at_load 32 (.tmp 9) ?_); refine wpList_load_own HO.out rfl 32 (.tmp 9) rfl 2 _ 0 4 _ _ ([.slice A5 n5 c5, .slice B5 m5 b5, .int .i64 fz5, .bool fl5]) _ rfl (take_all rfl) rfl Tryz.underlying32 rfl rdisk_size ?_)
 | ((with_reducible refine at_store 32 (.tmp 3) ?_); refine wpList_store_own_t HO.out rfl 32 (.tmp 3) (.tmp 30) rfl 0 _ 0 _ _ ([.slice A5 n5 c5, .slice B5 m5 b5, .int .i64 fz5, .bool fl5]) ([.slice A5 n5 c5, .slice B5 m5 b5, .int .i64 fz5, .bool fl5]) rfl (.agg ([.slice A5 n5 c5, .slice B5 m5 b5, .int .i64 fz5, .bool fl5] : List Value).toArray) rfl rfl (fits_agg _) (by simp) (splice_all rfl) rdisk_size rfl ?_; intro WA hO _ ht; replace HR5 := hide (HR5.out.touch (ht.mono (by simp)) (fun j hj => .inl hj)); replace HO := hide hO; clear hO ht)
 | ((with_reducible refine at_load 32 (.tmp 3) ?_); refine wpList_load_own HO.out rfl 32 (.tmp 3) rfl 0 _ 0 4 _ _ ([.slice A5 n5 c5, .slice B5 m5 b5, .int .i64 fz5, .bool fl5]) _ rfl (take_all rfl) rfl Tryz.underlying32 rfl rdisk_size ?_)
 | ((with_reducible refine at_store 32 (.tmp 6) ?_); refine wpList_store_own_t HO.out rfl 32 (.tmp 6) (.tmp 33) rfl 1 _ 0 _ _ ([.slice A5 n5 c5, .slice B5 m5 b5, .int .i64 fz5, .bool fl5]) ([.slice A5 n5 c5, .slice B5 m5 b5, .int .i64 fz5, .bool fl5]) rfl (.agg ([.slice A5 n5 c5, .slice B5 m5 b5, .int .i64 fz5, .bool fl5] : List Value).toArray) rfl rfl (fits_agg _) (by simp [zdk]) (splice_all rfl) rdisk_size rfl ?_; intro WA hO _ ht; replace HR5 := hide (HR5.out.touch (ht.mono (by simp)) (fun j hj => .inl hj)); replace HO := hide hO; clear hO ht))
     go_roundw
     case rel => exact ⟨k + 1, by go_num, E1, A5, n5, c5, B5, m5, b5, HKK.out, by rw [HEQ, HEL]; exact HO.out.sub (by simp), by unfold rv; rw [HEQ, HEL]; exact HR5.out.lessR (by intro j hj; simp only [List.cons_append, List.nil_append, List.mem_cons] at hj ⊢; exact hj.elim .inl (fun h => h.elim (fun h => .inr (.inl h)) (fun h => .inr (.inr (.inr h))))), HW3.out, HPE.out.1, HPE.out.2⟩
     case measure => simp [intOf]; omega
    ·have hd : (ec != 0) = true := by simpa using he0
     have HW3 : Hid (dWrites D l = (E1, ec)) := hide (by have := HW2.out; rw [if_neg he0] at this; exact this.symm)
     go_wp2_with (first
 | ((with_reducible refine at_load 32 (.tmp 9) ?_); refine wpList_load_own HO.out rfl 32 (.tmp 9) rfl 2 _ 0 4 _ _ ([.slice A5 n5 c5, .slice B5 m5 b5, .int .i64 fz5, .bool fl5]) _ rfl (take_all rfl) rfl Tryz.underlying32 rfl rdisk_size ?_)
 | ((with_reducible refine at_store 32 (.tmp 3) ?_); refine wpList_store_own_t HO.out rfl 32 (.tmp 3) (.tmp 30) rfl 0 _ 0 _ _ ([.slice A5 n5 c5, .slice B5 m5 b5, .int .i64 fz5, .bool fl5]) ([.slice A5 n5 c5, .slice B5 m5 b5, .int .i64 fz5, .bool fl5]) rfl (.agg ([.slice A5 n5 c5, .slice B5 m5 b5, .int .i64 fz5, .bool fl5] : List Value).toArray) rfl rfl (fits_agg _) (by simp) (splice_all rfl) rdisk_size rfl ?_; intro WA hO _ ht; replace HR5 := hide (HR5.out.touch (ht.mono (by simp)) (fun j hj => .inl hj)); replace HO := hide hO; clear hO ht)
 | ((with_reducible refine at_load 32 (.tmp 3) ?_); refine wpList_load_own HO.out rfl 32 (.tmp 3) rfl 0 _ 0 4 _ _ ([.slice A5 n5 c5, .slice B5 m5 b5, .int .i64 fz5, .bool fl5]) _ rfl (take_all rfl) rfl Tryz.underlying32 rfl rdisk_size ?_)
 | ((with_reducible refine at_store 32 (.tmp 6) ?_); refine wpList_store_own_t HO.out rfl 32 (.tmp 6) (.tmp 33) rfl 1 _ 0 _ _ ([.slice A5 n5 c5, .slice B5 m5 b5, .int .i64 fz5, .bool fl5]) ([.slice A5 n5 c5, .slice B5 m5 b5, .int .i64 fz5, .bool fl5]) rfl (.agg ([.slice A5 n5 c5, .slice B5 m5 b5, .int .i64 fz5, .bool fl5] : List Value).toArray) rfl rfl (fits_agg _) (by simp [zdk]) (splice_all rfl) rdisk_size rfl ?_; intro WA hO _ ht; replace HR5 := hide (HR5.out.touch (ht.mono (by simp)) (fun j hj => .inl hj)); replace HO := hide hO; clear hO ht))
     refine bodyPost_ret (v := .tuple #[.agg ([.slice A5 n5 c5, .slice B5 m5 b5, .int .i64 fz5, .bool fl5] : List Value).toArray, .int .i64 ec]) (results_row_tmp rfl _ _ b6 32 ([.slice A5 n5 c5, .slice B5 m5 b5, .int .i64 fz5, .bool fl5] : List Value).toArray (0, 0) _ _ rfl rfl (HO.out.blk 1 rfl) Tryz.underlying32 rfl rdisk_size) rfl ?_
     refine ⟨_, by rw [HW3.out], ?_, HO.out.below⟩
     rw [HW3.out]
     exact HR5.out.lessR (by intro j hj; simp; exact .inr (.inr (.inr hj)))
  ·obtain rfl : k = np := by have := HNP.out; omega
   have HRES : Hid (dWrites D l = dSync D1) := hide (by rw [← HDW.out, List.drop_eq_nil_of_le (by rw [← HNP.out]; exact Nat.le_refl _)]; rfl)
   obtain ⟨E, hE⟩ : ∃ E, E = dSync D1 := ⟨_, rfl⟩
   obtain ⟨E1, ec⟩ := E
   have HSY : Hid (∀ (W : World), Below w.heap.size w W → (∀ j ∈ [b3, b6], j < W.heap.size) → Rf W ([b3, b6] ++ F) (rv (.slice A n c) (.slice B m b) D1) D1 → Calls Tryz.prog 17 #[rv (.slice A n c) (.slice B m b) D1] W (GivesRE W ([b3, b6] ++ F) (E1, ec))) := hide (fun W hW hj hr => by
    rw [hE]
    exact sync_r _ _ D1 W hr (fun j hm => by
     rcases List.mem_append.1 hm with hm | hm
     ·exact hj j hm
     ·exact Nat.lt_of_lt_of_le (HF.out j hm) hW.size) (by have := HPD.out; have := HD.out; omega) (by have := HPD.out; have := HD.out; omega))
   rw [← hE] at HRES
   clear hE
   unfold rv at HSY HRF
   generalize D1.fuse = fz at HO HRF HSY
   generalize D1.failed = fl at HO HRF HSY
   go_wp2_with (first
 | ((with_reducible refine at_load 32 (.tmp 3) ?_); refine wpList_load_own HO.out rfl 32 (.tmp 3) rfl 0 _ 0 4 _ _ ([.slice A n c, .slice B m b, .int .i64 fz, .bool fl]) _ rfl (take_all rfl) rfl Tryz.underlying32 rfl rdisk_size ?_))
   refine (HSY.out _ HO.out.below (by simp only [List.mem_cons, List.not_mem_nil, or_false, forall_eq_or_imp, forall_eq]; exact ⟨(HO.out.blk 0 rfl).lt, (HO.out.blk 1 rfl).lt⟩) HRF.out).mono ?_
   rintro e w5 ⟨v5, rfl, hr5, hb5⟩
   obtain ⟨A5, n5, c5, B5, m5, b5, vs5, xs5, rfl, hk5⟩ := hr5.form
   replace HO := hide (HO.out.step hb5)
   have HR5 := hide hr5
   clear hr5 hb5 hk5 HSY HRF
   unfold rv at HR5 ⊢
   dsimp only at HR5 ⊢
   generalize E1.fuse = fz5 at *
   generalize E1.failed = fl5 at *
   go_wp2_with (first
 | ((with_reducible refine at_store 32 (.tmp 6) ?_); refine wpList_store_own_t HO.out rfl 32 (.tmp 6) (.tmp 37) rfl 1 _ 0 _ _ ([.slice A5 n5 c5, .slice B5 m5 b5, .int .i64 fz5, .bool fl5]) ([.slice A5 n5 c5, .slice B5 m5 b5, .int .i64 fz5, .bool fl5]) rfl (.agg ([.slice A5 n5 c5, .slice B5 m5 b5, .int .i64 fz5, .bool fl5] : List Value).toArray) rfl rfl (fits_agg _) (by simp [zdk]) (splice_all rfl) rdisk_size rfl ?_; intro WA hO _ ht; replace HR5 := hide (HR5.out.touch (ht.mono (by simp)) (fun j hj => .inl hj)); replace HO := hide hO; clear hO ht))
   refine bodyPost_ret (v := .tuple #[.agg ([.slice A5 n5 c5, .slice B5 m5 b5, .int .i64 fz5, .bool fl5] : List Value).toArray, .int .i64 ec]) (results_row_tmp rfl _ _ b6 32 ([.slice A5 n5 c5, .slice B5 m5 b5, .int .i64 fz5, .bool fl5] : List Value).toArray (0, 0) _ _ rfl rfl (HO.out.blk 1 rfl) Tryz.underlying32 rfl rdisk_size) rfl ?_
   refine ⟨_, by rw [HRES.out], ?_, HO.out.below⟩
   rw [HRES.out]
   exact HR5.out.lessR (by intro j hj; simp; exact .inr (.inr hj))
end Go.Proofs.YtpadgkkeihhneaaGreat
