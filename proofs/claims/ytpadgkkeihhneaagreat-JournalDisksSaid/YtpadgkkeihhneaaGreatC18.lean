/- The reference's settle. -/
import Derived.Test.YtpadgkkeihhneaaGreatC17
namespace Go.Proofs.YtpadgkkeihhneaaGreat
set_option maxRecDepth 100000
set_option linter.unusedSimpArgs false
set_option linter.unusedVariables false
section
open List renaming getElem_toArray → qa, getElem_cons_zero → qb, getElem_cons_succ → qc, setIfInBounds_toArray → qd, set_cons_zero → qe, set_cons_succ → qf
open Go.ChangeShapes Go.WideShapes Go.ChangeAt Go.RowKit
/-- Between two rounds of settle: the pages are the slices vs of the call's own row. -/
structure Stl (w : World) (F : List Nat) (D : DS) (f : Nat → Int) (A1 : Option Addr) (n c1 : Nat) (B : Option Addr) (m b : Nat) (i : Nat) (ps : List (List UInt8)) (vs : List Value) (W : World) : Prop where
 le : i ≤ m
 eq : settleFrom f i (D.pend.drop i) ps = settleFrom f 0 D.pend D.pages
 len : ps.length = n
 all : ∀ p ∈ ps, p.length = 128
 row : Row W 35 1 (.slice A1 n c1) n vs
 pgs : Pgs W ((Value.slice A1 n c1).ownBlock.toList ++ ([w.heap.size, w.heap.size + 1] ++ F)) vs ps
 box : Blk W w.heap.size 32 #[.slice A1 n c1, .slice B m b, .int .i64 D.fuse, .bool D.failed]
 res : Blk W (w.heap.size + 1) 32 #[.slice none 0 0, .slice none 0 0, .int .i64 0, .bool false]
 b : Below w.heap.size w W
 own : ∀ j, (Value.slice A1 n c1).ownBlock = some j → w.heap.size + 2 ≤ j
def StlR (w : World) (F : List Nat) (D : DS) (f : Nat → Int) (A1 : Option Addr) (n c1 : Nat) (B : Option Addr) (m b : Nat) (vi : Value) (W : World) : Prop :=
 ∃ (i : Nat) (ps : List (List UInt8)) (vs : List Value), vi = .int .i64 i ∧ Stl w F D f A1 n c1 B m b i ps vs W
theorem Pgs.less {w : World} {F F' : List Nat} {vs : List Value} {ps : List (List UInt8)} (h : Pgs w F vs ps) (hF : ∀ j ∈ F', j ∈ F) : Pgs w F' vs ps := h.touch (Touch.refl _ _) fun j hj => .inl (hF j hj)
theorem Pgs.more {w : World} {F : List Nat} {vs : List Value} {ps : List (List UInt8)} (h : Pgs w F vs ps) {w' : World} (k : Below w.heap.size w w') (o : List Nat) (ho : ∀ j ∈ o, w.heap.size ≤ j) : Pgs w' (o ++ F) vs ps :=
 h.touch (Touch.below k F) fun j hj => by
  rcases List.mem_append.1 hj with hj | hj
  ·exact .inr (ho j hj)
  ·exact .inl hj
theorem Is.formN {w : World} {v : Value} {l : List Int} (h : Is w v l) : ∃ A m c, v = .slice A m c ∧ Hid (m = l.length) ∧ m ≤ c ∧ c ≤ 9223372036854775807 := by
 obtain ⟨A, c, e, h1, h2, _⟩ := h; exact ⟨A, _, c, e, rfl, h1, by unfold maxLen at h2; omega⟩
theorem Is.at_ {w : World} {A : Option Addr} {m c : Nat} {l : List Int} (h : Is w (.slice A m c) l) (i : Nat) (hi : i < l.length) : ∃ g o, A = some ⟨g, o, none⟩ ∧ w.cell? ⟨g, o + i, none⟩ = some (.int .i64 (l.getD i 0)) := by
 obtain ⟨A', c', e, h1, h2, h3, h4⟩ := h
 obtain ⟨rfl, rfl, rfl⟩ : A = A' ∧ m = l.length ∧ c = c' := by injection e with e1 e2 e3; exact ⟨e1, e2, e3⟩
 obtain ⟨g, o, rfl, hg, hr⟩ := h4 (by omega)
 exact ⟨g, o, rfl, hr i _ (by simp [hi, List.getD])⟩
theorem ownsRow_empty2 (w : World) (o o' : Obj) (base : Nat) (t : TypeId) (size : Nat) (h : base ≤ w.heap.size + 1 + 1) : (((w.alloc o).alloc o').alloc (.cells #[] t)).ownsRow base t size (.slice (some ⟨w.heap.size + 1 + 1, 0, none⟩) 0 0) 0 [] := by
 have k := ownsRow_empty ((w.alloc o).alloc o') base t size (by simpa using h)
 simp only [World.size_alloc] at k
 exact k
theorem own_two {v : Value} {w : World} {o o' o'' : Obj} (h : v.ownBlock = (Value.slice (some ⟨w.heap.size + 1 + 1, 0, none⟩) 0 0).ownBlock ∨ v.ownBlock = some (((w.alloc o).alloc o').alloc o'').heap.size) (j : Nat) (hj : v.ownBlock = some j) : w.heap.size + 2 ≤ j := by
 rcases h with e | e
 ·rw [hj] at e
  have e2 : j = w.heap.size + 1 + 1 := by injection e
  omega
 ·rw [hj] at e
  have e2 : j = (((w.alloc o).alloc o').alloc o'').heap.size := by injection e
  simp only [World.size_alloc] at e2
  omega
theorem kept3 {w : World} {a t g o : Nat} {v1 v2 v3 : Value} (h : w.cell? ⟨a, 0, none⟩ = some v1 ∧ w.cell? ⟨t, 0, none⟩ = some v2 ∧ w.cell? ⟨t, 1, none⟩ = some v3) (h1 : g ≠ a) (h2 : g ≠ t) (u : Value) :
 (w.setCell ⟨g, o, none⟩ u).cell? ⟨a, 0, none⟩ = some v1 ∧ (w.setCell ⟨g, o, none⟩ u).cell? ⟨t, 0, none⟩ = some v2 ∧ (w.setCell ⟨g, o, none⟩ u).cell? ⟨t, 1, none⟩ = some v3 := by
 have e : ∀ p : Addr, p.block ≠ g → (w.setCell ⟨g, o, none⟩ u).cell? p = w.cell? p := fun p hp => World.cell?_of_block (Below.heap_setCell w ⟨g, o, none⟩ u p.block hp)
 exact ⟨(e ⟨a, 0, none⟩ (Ne.symm h1)).trans h.1, (e ⟨t, 0, none⟩ (Ne.symm h2)).trans h.2.1, (e ⟨t, 1, none⟩ (Ne.symm h2)).trans h.2.2⟩
theorem below_three (w : World) (o o' o'' : Obj) : Below w.heap.size w (((w.alloc o).alloc o').alloc o'') := (below_two w o o').alloc (by simp [Nat.add_assoc]) _
theorem blk_first (w : World) (t : TypeId) (cs : Array Value) (o' o'' : Obj) : Blk (((w.alloc (.cells cs t)).alloc o').alloc o'') w.heap.size t cs := ((Blk.new w t cs).alloc _).alloc _
theorem blk_second (w : World) (t : TypeId) (cs : Array Value) (o o'' : Obj) : Blk (((w.alloc o).alloc (.cells cs t)).alloc o'') (w.heap.size + 1) t cs := by
 have h := Blk.new (w.alloc o) t cs
 rw [World.size_alloc] at h
 exact h.alloc _
theorem stl_next {w wr Wc : World} {F : List Nat} {D : DS} {f : Nat → Int} {g n c1 m b i q : Nat} {B : Option Addr} {ps : List (List UInt8)} {vs : List Value} {data : List UInt8} {z : Int} {o : Obj} {vn : Value}
 (h : Stl w F D f (some ⟨g, 0, none⟩) n c1 B m b i ps vs wr)
 (heq : settleFrom f i (D.pend.drop i) ps = settleFrom f (i + 1) (D.pend.drop (i + 1)) (ps.set q (mixed (ps.getD q []) data z))) (hq : q < n) (hl2 : data.length = 128) (hl1 : (ps.getD q []).length = 128) (hg : g < wr.heap.size) (hF : ∀ j ∈ F, j < w.heap.size)
 (hb : Below (wr.alloc o).drew.heap.size (wr.alloc o).drew Wc) (ho : Ow Wc (wr.alloc o).drew.heap.size vn (mixed (ps.getD q []) data z)) (hs : wr.heap.size + 1 ≤ Wc.heap.size) (hi : i < m) :
 Stl w F D f (some ⟨g, 0, none⟩) n c1 B m b (i + 1) (ps.set q (mixed (ps.getD q []) data z)) (vs.set q vn) (Wc.setCell ⟨g, q, none⟩ vn) := by
 have hgo := h.own g rfl
 have hwr : (wr.alloc o).drew.heap.size = wr.heap.size + 1 := by simp [World.drew]
 have hbw : Below wr.heap.size wr Wc := (((Below.refl wr.heap.size wr).alloc (Nat.le_refl _) o).drew).trans (hb.mono (by rw [hwr]; omega))
 have T : Touch [g] Wc (Wc.setCell ⟨g, q, none⟩ vn) := (Touch.refl _ _).set (by simp) q vn
 have hrow : Row Wc 35 1 (.slice (some ⟨g, 0, none⟩) n c1) n vs := Row.touch h.row (Touch.below hbw []) (by simp)
 have hvn : ∀ j, vn.ownBlock = some j → wr.heap.size + 1 ≤ j ∧ j < Wc.heap.size := fun j hj => by have := ho.lt j hj; omega
 have hle := h.b.size
 refine ⟨by omega, ?_, by simp [h.len], ?_, (World.ownsRow.stored hrow q vn).1, ?_, ?_, ?_, ?_, h.own⟩
 ·rw [← heq]; exact h.eq
 ·intro p hp
  rcases List.mem_or_eq_of_mem_set hp with hp | hp
  ·exact h.all p hp
  ·rw [hp]; exact mixed_len _ _ _ hl1 hl2
 ·have h1 := (h.pgs.touch (Touch.below hbw _) (fun j hj => .inl hj)).touch (T.mono (fun s hs => .inl (by simp at hs; subst hs; simp [Value.ownBlock]))) (F' := (Value.slice (some ⟨g, 0, none⟩) n c1).ownBlock.toList ++ ([w.heap.size, w.heap.size + 1] ++ F)) (fun j hj => .inl hj)
  refine h1.set q (ho.bs.touch T (fun j hj => by have := hvn j hj; simp; omega)) (fun j hj => ?_)
  have := hvn j hj
  refine ⟨by have := T.size; omega, fun hm => ?_⟩
  simp [Value.ownBlock] at hm
  rcases hm with rfl | rfl | rfl | hm
  ·omega
  ·omega
  ·omega
  ·have := hF j hm; omega
 ·exact (h.box.step hbw).far (by simp; omega) _
 ·exact (h.res.step hbw).far (by simp; omega) _
 ·exact (h.b.trans (hbw.mono hle)).setCell (by show w.heap.size ≤ g; omega) _
set_option maxRecDepth 100000 in
set_option maxHeartbeats 8000000 in
theorem settle_v (F : List Nat) (dv pv : Value) (D : DS) (vs0 : List Value) (xs : List (Nat × Value)) (s : Value) (l : List Int) (w : World) (h : Rk w F D dv pv vs0 xs) (hs : Is w s l) (hF : ∀ j ∈ F, j < w.heap.size) (hpl : D.pend.length ≤ 1000000) (hpg : D.pages.length ≤ 1000000) :
 Calls Tryz.prog 45 #[rv dv pv D, s] w (GivesR w F (dSettle D (fun i => l.getD i 0))) := by
 obtain ⟨A, c, rfl, hc, hcm⟩ := h.dur.form
 obtain ⟨B, b, rfl, hb, hbm⟩ := h.pend.form
 obtain ⟨As, ms, cs, rfl, hms, hmc, hmm⟩ := hs.formN
 have HS := hide hs
 have HK := hide h
 have HPL := hide hpl
 have HPG := hide hpg
 have HFF := hide hF
 have HOK := hide h.ok
 have HMS := hms
 unfold rv
 obtain ⟨n, hn⟩ : ∃ n, n = D.pages.length := ⟨_, rfl⟩
 obtain ⟨m, hm⟩ : ∃ m, m = D.pend.length := ⟨_, rfl⟩
 have HN := hide hn
 have HM := hide hm
 rw [← hn] at hc HK ⊢
 rw [← hm] at hb HK ⊢
 have HP1 : Hid (Row w 35 1 (.slice A n c) n vs0) := hide (by rw [hn]; have := h.dur; rwa [← hn] at this ⊢)
 have HP2 : Hid (Row w 84 2 (.slice B m b) m (pc xs)) := hide (by have := HK.out.pend; rwa [← hm] at this)
 have HPO := hide (pgs_one h.pgs)
 clear h hs hpl hpg hF hn hm hms
 obtain ⟨i0, hi0, hz0, hz1, hz2⟩ := info_parts info_sl
 go_enter Tryz.func45, Tryz.ntmps45
 go_wp2_with (first
  | (refine wpList_append_row rfl (.tmp 8) (.tmp 10) 22 rfl w.heap.size 0 35 i0 _ 1 24 Tryz.underlying22 hi0 hz0 hz1 hz2 rfl (by decide) (v := .slice (some ⟨w.heap.size + 1 + 1, 0, none⟩) 0 0) (n := 0) (m := n) (xs := []) rfl (ownsRow_empty2 w _ _ w.heap.size 35 1 (by omega)) rfl (((HP1.out.alloc _).alloc _).alloc _) HPO.out (by have := HPG.out; have := HN.out; unfold maxLen; omega) (by have := HPG.out; have := HN.out; omega) (by simp [Nat.add_assoc]) ?_; intro v1 W3 how hg hat; rw [Nat.zero_add, List.nil_append] at how; obtain ⟨A1, c1, rfl, hc1, hcm1⟩ := Row.form (ownsRow_low how); have HO1 := hide how; have HOW : Hid (∀ j, (Value.slice A1 n c1).ownBlock = some j → w.heap.size + 2 ≤ j) := hide (fun j hj => own_two hat j hj); have HB3 : Hid (Below w.heap.size w W3) := hide (below_grown (below_three w _ _ _) hg (by simp [Nat.add_assoc]) (Nat.le_succ_of_le (Nat.le_succ w.heap.size))); have HX1 := hide ((blk_first w 32 _ _ _).grown hg (fun e => by have e2 : w.heap.size = w.heap.size + 1 + 1 := (by injection e); omega)); have HX2 := hide ((blk_second w 32 _ _ _).grown hg (fun e => by have e2 : w.heap.size + 1 = w.heap.size + 1 + 1 := (by injection e); omega)); obtain ⟨k0, k1, k2, k3, f0, f1, f2, f3⟩ := blk4 HX1.out; have HP3 := hide ((HK.out.pgs.touch (Touch.below HB3.out F) (fun j hj => .inl hj))); clear how hg hat))
 clear k0 k1 k2 k3 f0 f1 f2 f3
 go_loopw [5, 6, 7] (fun v5 v6 v7 wr => StlR w F D (fun i => l.getD i 0) A1 n c1 B m b v5 wr) (fun v5 _ _ _ => m - (intOf v5).toNat)
 case atStart =>
  have T4 : Touch [w.heap.size] W3 (W3.setCell ⟨w.heap.size, 0, none⟩ (.slice A1 n c1)) := (Touch.refl _ _).set (by simp) 0 _
  have hb4 := Below.touch HB3.out T4 (by simp) HB3.out.size
  refine ⟨0, D.pages, vs0, rfl, ⟨Nat.zero_le _, rfl, HN.out.symm, HOK.out.pages, Row.touch (ownsRow_low HO1.out) T4 (fun j hj => by have := HOW.out j hj; simp; omega), (by rw [← List.append_assoc]; exact Pgs.more HK.out.pgs hb4 _ (fun j hj => by rcases List.mem_append.1 hj with hj | hj; exact Nat.le_trans (by omega) (HOW.out j (Option.mem_toList.1 hj)); simp at hj; omega)), HX1.out.put 0 _, HX2.out.far (by simp) _, hb4, HOW.out⟩⟩
 case round =>
  obtain ⟨i, ps, vs, rfl, hst⟩ := hrel
  have HST := hide hst
  obtain ⟨k0, k1, k2, k3, f0, f1, f2, f3⟩ := blk4 hst.box
  clear HO1 HOW HB3 HX1 HX2 HP3 hst
  by_cases hlt : i < m
  ·obtain ⟨g2, rfl, hg2, hcells⟩ := (Row.touch HP2.out (Touch.below HST.out.b []) (by simp)).head (by omega)
   have hkw := HK.out.step HST.out.b
   have hxl := hkw.pds.len
   have hil : i < D.pend.length := by rw [← HM.out]; exact hlt
   obtain ⟨⟨q, vx⟩, hx⟩ : ∃ x, xs[i]? = some x := ⟨_, List.getElem?_eq_getElem (by omega)⟩
   have d0 := (hcells (i * 2) (by omega)).1
   have d1 := (hcells (i * 2 + 1) (by omega)).1
   rw [(pc_at xs i _ hx).1] at d0
   rw [(pc_at xs i _ hx).2] at d1
   obtain ⟨hq, hvx, _⟩ := hkw.pds.at_ i _ _ hx (List.getElem?_eq_getElem hil)
   have hpok := HOK.out.pend _ (List.getElem_mem hil)
   have hstep : settleFrom (fun i => l.getD i 0) i (D.pend.drop i) ps = settleFrom (fun i => l.getD i 0) (i + 1) (D.pend.drop (i + 1)) (ps.set (D.pend[i]).1 (mixed (ps.getD (D.pend[i]).1 []) (D.pend[i]).2 (l.getD i 0))) := by
    rw [List.drop_eq_getElem_cons hil]; rfl
   simp only at hq hvx
   generalize D.pend[i] = y at *
   obtain ⟨qy, data⟩ := y
   simp only at hq hvx hpok hstep
   subst hq
   have hqn : q < n := by rw [HN.out]; exact hpok.1
   obtain ⟨g, rfl, hg, hpc⟩ := HST.out.row.head (by omega)
   have hvl := HST.out.pgs.len
   have hpl := HST.out.len
   obtain ⟨vp, hvp⟩ : ∃ vp, vs[q]? = some vp := ⟨_, List.getElem?_eq_getElem (by omega)⟩
   have dq := (hpc q (by omega)).1
   have fq := (hpc q (by omega)).2
   rw [hvp] at dq
   obtain ⟨hbp, _⟩ := HST.out.pgs.at_ q vp _ hvp (List.getElem?_eq_getElem (by omega))
   have hgd : ps.getD q [] = ps[q] := by simp [List.getD, show q < ps.length by omega]
   rw [← hgd] at hbp
   have hl1 : (ps.getD q []).length = 128 := by rw [hgd]; exact HST.out.all _ (List.getElem_mem _)
   obtain ⟨Ap, mp, cp, rfl⟩ := hbp.form2
   obtain ⟨Ax, mx, cx, rfl⟩ := hvx.form2
   have HSTEP := hide hstep
   have HBP := hide hbp
   have HBX := hide hvx
   have HL1 := hide hl1
   have HPOK := hide hpok
   have HGW : Hid (w.heap.size + 2 ≤ g) := hide (HST.out.own g rfl)
   have HG := hide hg
   have HQN := hide hqn
   have HLT := hide hlt
   have hqi : (q : Int) < (n : Int) := by omega
   have him : (i : Int) < (m : Int) := by omega
   have hwr : w.heap.size + 2 ≤ wr.heap.size := by have := HGW.out; omega
   have HWR := hide hwr
   have HS' := hide (HS.out.step HST.out.b)
   have e0 : (wr.alloc (.cells #[.int .i64 (q : Int), .slice Ax mx cx] 84)).drew.cell? ⟨w.heap.size, 0, none⟩ = some (.slice (some ⟨g, 0, none⟩) n c1) := (HST.out.box.alloc _).cell 0
   have e1 : (wr.alloc (.cells #[.int .i64 (q : Int), .slice Ax mx cx] 84)).drew.cell? ⟨wr.heap.size, 0, none⟩ = some (.int .i64 (q : Int)) := (Blk.new wr _ _).cell 0
   have e2 : (wr.alloc (.cells #[.int .i64 (q : Int), .slice Ax mx cx] 84)).drew.cell? ⟨wr.heap.size, 1, none⟩ = some (.slice Ax mx cx) := (Blk.new wr _ _).cell 1
   have e3 : (wr.alloc (.cells #[.int .i64 (q : Int), .slice Ax mx cx] 84)).drew.cell? ⟨g, q, none⟩ = some (.slice Ap mp cp) := (((Below.refl wr.heap.size wr).alloc (Nat.le_refl _) _).drew.cell (p := ⟨g, q, none⟩) hg).trans dq
   have e4 : (wr.alloc (.cells #[.int .i64 (q : Int), .slice Ax mx cx] 84)).drew.frozen? ⟨g, q, none⟩ = false := (((Below.refl wr.heap.size wr).alloc (Nat.le_refl _) _).drew.frozen (p := ⟨g, q, none⟩) hg).trans fq
   have HE := hide (And.intro e0 (And.intro e1 e2))
   have HE34 := hide (And.intro e3 e4)
   clear e0 e1 e2 e3 e4 hcells hkw hxl hil hx hvx hpok hstep hpc hvl hpl hvp hbp hgd hl1 hg hqn hlt
   by_cases hi : i < l.length
   ·obtain ⟨gs, os, rfl, hsc⟩ := HS'.out.at_ i hi
    obtain ⟨z, hz⟩ : ∃ z, z = l.getD i 0 := ⟨_, rfl⟩
    rw [← hz] at HSTEP hsc
    clear hz
    have hims : (i : Int) < (ms : Int) := by have := HMS.out; omega
    go_wp2_with fail
    refine wp_region_held_drew (S := fun w' => w'.cell? ⟨w.heap.size, 0, none⟩ = some (.slice (some ⟨g, 0, none⟩) n c1) ∧ w'.cell? ⟨wr.heap.size, 0, none⟩ = some (.int .i64 (q : Int)) ∧ w'.cell? ⟨wr.heap.size, 1, none⟩ = some (.slice Ax mx cx)) (by kernel_rfl) (HE.out) (fun hS0 => ?_)
    refine tk 0 ?_
    refine tk 1 ?_
    refine tk 2 ?_
    refine tk 3 ?_
    refine tk 4 ?_
    refine tk 5 ?_
    refine tk 6 ?_
    refine tk 7 ?_
    refine tk 8 ?_
    refine tk 10 ?_
    refine tk 11 ?_
    refine tk 12 ?_
    refine tr1 9 fun K hK => ?_
    have cq : (wr.alloc (.cells #[.int .i64 (q : Int), .slice Ax mx cx] 84)).cell? ⟨g, q, none⟩ = some (.slice Ap mp cp) := HE34.out.1
    go_simp
    refine hK.out _ _ (HE.out) (fun hS12 => ?_)
    clear hK K
    try simp only [Act.put, qa, qb, qc, qd, qe, qf]
    refine tr1 13 fun K hK => ?_
    go_simp
    refine (mixed_c (.slice Ap mp cp) (.slice Ax mx cx) (ps.getD q []) data z (wr.alloc (.cells #[.int .i64 (q : Int), .slice Ax mx cx] 84)).drew (HBP.out.step (((Below.refl _ _).alloc (Nat.le_refl _) _).drew)) (HBX.out.step (((Below.refl _ _).alloc (Nat.le_refl _) _).drew)) HL1.out HPOK.out.2).mono ?_
    rintro e Wc ⟨vn, rfl, how, hbc⟩
    obtain ⟨An, mn, cn, rfl, hmn, _, _⟩ := how.formN
    have HO := hide how
    have HBC := hide hbc
    have HWC : Hid (wr.heap.size + 1 ≤ Wc.heap.size) := hide (by have := hbc.size; simpa [World.drew] using this)
    have HE3 : Hid (Wc.cell? ⟨w.heap.size, 0, none⟩ = some (.slice (some ⟨g, 0, none⟩) n c1) ∧ Wc.cell? ⟨wr.heap.size, 0, none⟩ = some (.int .i64 (q : Int)) ∧ Wc.cell? ⟨wr.heap.size, 1, none⟩ = some (.slice Ax mx cx)) := hide ⟨(hbc.cell (p := ⟨w.heap.size, 0, none⟩) (by have := HWR.out; simp [World.drew]; omega)).trans HE.out.1, (hbc.cell (p := ⟨wr.heap.size, 0, none⟩) (by simp [World.drew])).trans HE.out.2.1, (hbc.cell (p := ⟨wr.heap.size, 1, none⟩) (by simp [World.drew])).trans HE.out.2.2⟩
    have y3 : Wc.cell? ⟨g, q, none⟩ = some (.slice Ap mp cp) := (hbc.cell (p := ⟨g, q, none⟩) (by have := HG.out; simp [World.drew]; omega)).trans HE34.out.1
    have y4 : Wc.frozen? ⟨g, q, none⟩ = false := (hbc.frozen (p := ⟨g, q, none⟩) (by have := HG.out; simp [World.drew]; omega)).trans HE34.out.2
    clear how hbc hmn
    refine hK.out _ _ (HE3.out) (fun hS13 => ?_)
    clear hK K
    try simp only [Act.put, qa, qb, qc, qd, qe, qf]
    refine tk 14 ?_
    refine tr1 15 fun K hK => ?_
    go_simp
    refine hK.out _ _ (kept3 HE3.out (by have := HGW.out; omega) (by have := HG.out; omega) _) (fun hS15 => ?_)
    clear hK K
    try simp only [Act.put, qa, qb, qc, qd, qe, qf]
    refine wpAnyH_done (by kernel_rfl) ?_ _
    go_wp2_with fail
    go_roundw
    case rel =>
     have hst' := stl_next HST.out HSTEP.out HQN.out HPOK.out.2 HL1.out HG.out HFF.out HBC.out HO.out HWC.out HLT.out
     exact ⟨i + 1, _, _, by go_num, hst'⟩
    case measure => have := HLT.out; simp [intOf]; omega
   ·have hims : (ms : Int) ≤ (i : Int) := by have := HMS.out; omega
    have hl0 : l.getD i 0 = 0 := by simp [List.getD, List.getElem?_eq_none (Nat.le_of_not_lt hi)]
    rw [hl0] at HSTEP
    go_wp2_with fail
    refine wp_region_held_drew (S := fun w' => w'.cell? ⟨w.heap.size, 0, none⟩ = some (.slice (some ⟨g, 0, none⟩) n c1) ∧ w'.cell? ⟨wr.heap.size, 0, none⟩ = some (.int .i64 (q : Int)) ∧ w'.cell? ⟨wr.heap.size, 1, none⟩ = some (.slice Ax mx cx)) (by kernel_rfl) (HE.out) (fun hS0 => ?_)
    refine tk 0 ?_
    refine tk 1 ?_
    refine tk 2 ?_
    refine tk 3 ?_
    refine tk 4 ?_
    refine tk 5 ?_
    refine tk 6 ?_
    refine tk 7 ?_
    refine tk 8 ?_
    refine tk 10 ?_
    refine tk 11 ?_
    refine tk 12 ?_
    refine tr1 9 fun K hK => ?_
    have cq : (wr.alloc (.cells #[.int .i64 (q : Int), .slice Ax mx cx] 84)).cell? ⟨g, q, none⟩ = some (.slice Ap mp cp) := HE34.out.1
    go_simp
    refine hK.out _ _ (HE.out) (fun hS12 => ?_)
    clear hK K
    try simp only [Act.put, qa, qb, qc, qd, qe, qf]
    refine tr1 13 fun K hK => ?_
    go_simp
    refine (mixed_c (.slice Ap mp cp) (.slice Ax mx cx) (ps.getD q []) data 0 (wr.alloc (.cells #[.int .i64 (q : Int), .slice Ax mx cx] 84)).drew (HBP.out.step (((Below.refl _ _).alloc (Nat.le_refl _) _).drew)) (HBX.out.step (((Below.refl _ _).alloc (Nat.le_refl _) _).drew)) HL1.out HPOK.out.2).mono ?_
    rintro e Wc ⟨vn, rfl, how, hbc⟩
    obtain ⟨An, mn, cn, rfl, hmn, _, _⟩ := how.formN
    have HO := hide how
    have HBC := hide hbc
    have HWC : Hid (wr.heap.size + 1 ≤ Wc.heap.size) := hide (by have := hbc.size; simpa [World.drew] using this)
    have HE3 : Hid (Wc.cell? ⟨w.heap.size, 0, none⟩ = some (.slice (some ⟨g, 0, none⟩) n c1) ∧ Wc.cell? ⟨wr.heap.size, 0, none⟩ = some (.int .i64 (q : Int)) ∧ Wc.cell? ⟨wr.heap.size, 1, none⟩ = some (.slice Ax mx cx)) := hide ⟨(hbc.cell (p := ⟨w.heap.size, 0, none⟩) (by have := HWR.out; simp [World.drew]; omega)).trans HE.out.1, (hbc.cell (p := ⟨wr.heap.size, 0, none⟩) (by simp [World.drew])).trans HE.out.2.1, (hbc.cell (p := ⟨wr.heap.size, 1, none⟩) (by simp [World.drew])).trans HE.out.2.2⟩
    have y3 : Wc.cell? ⟨g, q, none⟩ = some (.slice Ap mp cp) := (hbc.cell (p := ⟨g, q, none⟩) (by have := HG.out; simp [World.drew]; omega)).trans HE34.out.1
    have y4 : Wc.frozen? ⟨g, q, none⟩ = false := (hbc.frozen (p := ⟨g, q, none⟩) (by have := HG.out; simp [World.drew]; omega)).trans HE34.out.2
    clear how hbc hmn
    refine hK.out _ _ (HE3.out) (fun hS13 => ?_)
    clear hK K
    try simp only [Act.put, qa, qb, qc, qd, qe, qf]
    refine tk 14 ?_
    refine tr1 15 fun K hK => ?_
    go_simp
    refine hK.out _ _ (kept3 HE3.out (by have := HGW.out; omega) (by have := HG.out; omega) _) (fun hS15 => ?_)
    clear hK K
    try simp only [Act.put, qa, qb, qc, qd, qe, qf]
    refine wpAnyH_done (by kernel_rfl) ?_ _
    go_wp2_with fail
    go_roundw
    case rel =>
     have hst' := stl_next HST.out HSTEP.out HQN.out HPOK.out.2 HL1.out HG.out HFF.out HBC.out HO.out HWC.out HLT.out
     exact ⟨i + 1, _, _, by go_num, hst'⟩
    case measure => have := HLT.out; simp [intOf]; omega
  ·obtain rfl : i = m := by have := HST.out.le; omega
   have hps : ps = settleFrom (fun i => l.getD i 0) 0 D.pend D.pages := by
    rw [← HST.out.eq, List.drop_eq_nil_of_le (by rw [← HM.out]; exact Nat.le_refl _)]; rfl
   have HPS := hide hps
   obtain ⟨j0, j1, j2, j3, g0, g1, g2, g3⟩ := blk4 HST.out.res
   clear hlt hps
   go_wp2_with fail
   refine bodyPost_ret (results_cell_row rfl _ _ (w.heap.size + 1) 32 #[.slice A1 n c1, .slice none 0 0, .int .i64 D.fuse, .bool D.failed] (0, 0) _ rfl ?hr Tryz.underlying32 rfl size_disk) rfl ?hp
   case hr => exact (((((HST.out.res.far (by simp) _).put 0 _).put 1 _).put 2 _).put 3 _)
   case hp =>
    clear k0 k1 k2 k3 f0 f1 f2 f3 j0 j1 j2 j3 g0 g1 g2 g3
    have T5 : Touch [w.heap.size, w.heap.size + 1] wr _ := ((Touch.refl [w.heap.size, w.heap.size + 1] wr).set (g := w.heap.size) (.inl (by simp)) 1 (.slice none 0 0)).set (g := w.heap.size + 1) (.inl (by simp)) 0 (.slice A1 n c1) |>.set (g := w.heap.size + 1) (.inl (by simp)) 1 (.slice none 0 0) |>.set (g := w.heap.size + 1) (.inl (by simp)) 2 (.int .i64 D.fuse) |>.set (g := w.heap.size + 1) (.inl (by simp)) 3 (.bool D.failed)
    generalize hWf : (World.setCell _ _ _) = Wf at T5 ⊢
    have hBf := Below.touch HST.out.b T5 (by simp) HST.out.b.size
    have hok := dSettle_ok HOK.out (fun i => l.getD i 0)
    have hlen : (dSettle D (fun i => l.getD i 0)).pages.length = n := by show (settleFrom _ 0 D.pend D.pages).length = n; rw [← HPS.out, HST.out.len]
    have hown := HST.out.own
    have hsz := T5.size
    refine ⟨_, rfl, ⟨.slice A1 n c1, .slice none 0 0, vs, [], rfl, ?_, ?_, ?_, ?_, ?_, ?_, hok⟩, hBf⟩
    ·rw [hlen]; exact Row.touch HST.out.row T5 (fun j hj => by have := hown j hj; simp; omega)
    ·exact World.ownsRow_nil _ _ _ _
    ·show Pgs Wf F vs (settleFrom _ 0 D.pend D.pages)
     rw [← HPS.out]
     have h1 : Pgs wr ([w.heap.size, w.heap.size + 1] ++ F) vs ps := HST.out.pgs.less (fun j hj => by simp at hj ⊢; exact .inr hj)
     exact (h1.touch (T5.mono (fun s hs => .inl (by simp at hs ⊢; omega))) (fun j hj => .inl hj)).less (fun j hj => by simp [hj])
    ·exact Pds.nil _ _
    ·exact Apart.new HFF.out (fun j hj => ⟨by have := hown j hj; omega, by have := (World.ownsRow.lt HST.out.row j hj).2; omega⟩)
    ·exact fun j hj => by cases hj
end
section
open Go.ChangeShapes Go.WideShapes Go.ChangeAt Go.RowKit
theorem settle_r (F : List Nat) (v : Value) (D : DS) (s : Value) (l : List Int) (w : World) (h : Rf w F v D) (hs : Is w s l) (hF : ∀ j ∈ F, j < w.heap.size) (hpl : D.pend.length ≤ 1000000) (hpg : D.pages.length ≤ 1000000) :
 Calls Tryz.prog 45 #[v, s] w (GivesR w F (dSettle D (fun i => l.getD i 0))) := by
 obtain ⟨dv, pv, vs, xs, rfl, hk⟩ := h
 exact settle_v F dv pv D vs xs s l w hk hs hF hpl hpg
theorem two_lt {F : List Nat} {w w' : World} (hF : ∀ j ∈ F, j < w.heap.size) (k : w.heap.size + 2 ≤ w'.heap.size) : ∀ j ∈ [w.heap.size, w.heap.size + 1] ++ F, j < w'.heap.size := by
 intro j hj
 simp at hj
 rcases hj with rfl | rfl | hj
 ·omega
 ·omega
 ·have := hF j hj; omega
theorem two_in (F : List Nat) (w : World) : ∀ j ∈ [w.heap.size, w.heap.size + 1] ++ F, j ∈ F ∨ w.heap.size ≤ j := by
 intro j hj
 simp at hj
 rcases hj with rfl | rfl | hj
 ·exact .inr (Nat.le_refl _)
 ·exact .inr (Nat.le_succ _)
 ·exact .inl hj
theorem Rf.two {w w' : World} {F : List Nat} {v : Value} {D : DS} (h : Rf w F v D) (k : Below w.heap.size w w') : Rf w' ([w.heap.size, w.heap.size + 1] ++ F) v D :=
 h.touch (Touch.below k F) fun j hj => by
  simp at hj
  rcases hj with rfl | rfl | hj
  ·exact .inr (Nat.le_refl _)
  ·exact .inr (Nat.le_succ _)
  ·exact .inl hj
/-- Two stores into the call's own blocks do not touch the reference's disk. -/
theorem Rk.stored {w w1 w2 : World} {F : List Nat} {D : DS} {dv pv : Value} {vs : List Value} {xs : List (Nat × Value)} (h : Rk w1 ([w.heap.size, w.heap.size + 1] ++ F) D dv pv vs xs) (k : Touch [w.heap.size, w.heap.size + 1] w1 w2) : Rk w2 F D dv pv vs xs :=
 h.touch (k.mono fun s hs => .inl (by simp at hs ⊢; omega)) fun j hj => .inl (by simp [hj])
theorem Rf.form {w : World} {F : List Nat} {v : Value} {D : DS} (h : Rf w F v D) : ∃ A n c B m b vs xs, v = rv (.slice A n c) (.slice B m b) D ∧ Rk w F D (.slice A n c) (.slice B m b) vs xs := by
 obtain ⟨dv, pv, vs, xs, rfl, hk⟩ := h
 obtain ⟨A, c, rfl, _⟩ := hk.dur.form
 obtain ⟨B, b, rfl, _⟩ := hk.pend.form
 exact ⟨A, _, c, B, _, b, vs, xs, rfl, hk⟩
set_option maxRecDepth 100000 in
set_option maxHeartbeats 2000000 in
theorem crash_r (F : List Nat) (v : Value) (D : DS) (s : Value) (l : List Int) (w : World) (h : Rf w F v D) (hs : Is w s l) (hF : ∀ j ∈ F, j < w.heap.size) (hpl : D.pend.length ≤ 1000000) (hpg : D.pages.length ≤ 1000000) :
 Calls Tryz.prog 63 #[v, s] w (GivesR w F (dCrash D l)) := by
 have HF := hide hF
 have HOK := hide (dCrash_ok h.ok l)
 have HSE := hide (fun (w' : World) (k : Below w.heap.size w w') (k2 : w.heap.size + 2 ≤ w'.heap.size) => settle_r ([w.heap.size, w.heap.size + 1] ++ F) v D s l w' (h.two k) (hs.step k) (two_lt hF k2) hpl hpg)
 obtain ⟨A, n, c, B, m, b, vs, xs, rfl, hk⟩ := h.form
 obtain ⟨As, ms, cs, rfl, _, _, _⟩ := hs.formN
 unfold rv at HSE ⊢
 clear h hs hF hpl hpg hk
 generalize D.fuse = z at *
 generalize D.failed = fl at *
 go_enter Tryz.func63, Tryz.ntmps63
 go_wp2_with fail
 refine (HSE.out _ (below_two w _ _) (by simp [Nat.add_assoc])).mono ?_
 rintro e w1 ⟨v1, rfl, hr, hb1⟩
 obtain ⟨A1, n1, c1, B1, m1, b1, vs1, xs1, rfl, hk1⟩ := hr.form
 unfold rv
 have HK1 := hide hk1
 have hx1 : Blk w1 w.heap.size 32 #[.slice A n c, .slice B m b, .int .i64 z, .bool fl] := ((Blk.new w 32 _).alloc _).step hb1
 have hx2 : Blk w1 (w.heap.size + 1) 32 #[.slice none 0 0, .slice none 0 0, .int .i64 0, .bool false] := by
  have h := Blk.new (w.alloc (Obj.cells #[Value.slice A n c, Value.slice B m b, Value.int IntKind.i64 z, Value.bool fl] 32)) 32 #[.slice none 0 0, .slice none 0 0, .int .i64 0, .bool false]
  rw [World.size_alloc] at h
  exact h.step hb1
 have HB1 : Hid (Below w.heap.size w w1) := hide ((below_two w _ _).trans (hb1.mono (by simp [Nat.add_assoc])))
 have HX := hide hx1
 have HX2 := hide hx2
 obtain ⟨j0, j1, j2, j3, g0, g1, g2, g3⟩ := blk4 hx2
 clear hb1 hx1 hx2 hk1 hr
 generalize (dSettle D fun i => l.getD i 0).fuse = z1 at *
 generalize (dSettle D fun i => l.getD i 0).failed = fl1 at *
 go_wp2_with (first
  | (refine wpList_store_blk rfl 32 (.tmp 2) (.tmp 7) rfl w.heap.size 32 #[.slice A n c, .slice B m b, .int .i64 z, .bool fl] #[.slice A1 n1 c1, .slice B1 m1 b1, .int .i64 z1, .bool fl1] rfl rfl HX.out rfl size_disk (one_rv _ _ _ _ _ _ _ _) ?_; intro W2 hx1 ht2 hs2; obtain ⟨k0, k1, k2, k3, f0, f1, f2, f3⟩ := blk4 hx1; have HX1 := hide hx1; have HT2 := hide ht2; have hy2 := HX2.out.touch ht2 (by simp); have HY2 := hide hy2; clear j0 j1 j2 j3 g0 g1 g2 g3; obtain ⟨j0, j1, j2, j3, g0, g1, g2, g3⟩ := blk4 hy2; clear hx1 ht2 hs2 hy2))
 refine bodyPost_ret (results_cell_row rfl _ _ (w.heap.size + 1) 32 #[.slice A1 n1 c1, .slice B1 m1 b1, .int .i64 (-1), .bool false] (0, 0) _ rfl ?hr Tryz.underlying32 rfl size_disk) rfl ?hp
 case hr => exact ((((((HY2.out.far (by simp) _).far (by simp) _).put 0 _).put 1 _).put 2 _).put 3 _)
 case hp =>
  clear k0 k1 k2 k3 f0 f1 f2 f3 j0 j1 j2 j3 g0 g1 g2 g3
  have T5 : Touch [w.heap.size, w.heap.size + 1] w1 _ := (((((((HT2.out.mono (T := [w.heap.size, w.heap.size + 1]) (fun s hs => .inl (by simp at hs ⊢; omega))).set (g := w.heap.size) (.inl (by simp)) 2 (.int .i64 (-1))).set (g := w.heap.size) (.inl (by simp)) 3 (.bool false)).set (g := w.heap.size + 1) (.inl (by simp)) 0 (.slice A1 n1 c1)).set (g := w.heap.size + 1) (.inl (by simp)) 1 (.slice B1 m1 b1)).set (g := w.heap.size + 1) (.inl (by simp)) 2 (.int .i64 (-1))).set (g := w.heap.size + 1) (.inl (by simp)) 3 (.bool false))
  generalize hWf : (World.setCell _ _ _) = Wf at T5 ⊢
  exact ⟨_, rfl, ⟨_, _, vs1, xs1, rfl, (HK1.out.stored T5).other rfl rfl HOK.out⟩, Below.touch HB1.out T5 (by simp) HB1.out.size⟩
theorem settleFrom_congr (f g : Nat → Int) : ∀ (ws : List (Nat × List UInt8)) (i : Nat) (ps : List (List UInt8)), (∀ k, i ≤ k → k < i + ws.length → f k = g k) → settleFrom f i ws ps = settleFrom g i ws ps
 | [], _, _, _ => rfl
 | w :: ws, i, ps, h => by
  show settleFrom f (i + 1) ws _ = settleFrom g (i + 1) ws _
  rw [h i (Nat.le_refl _) (by simp), settleFrom_congr f g ws (i + 1) _ (fun k h1 h2 => h k (by omega) (by simp at h2 ⊢; omega))]
theorem dSettle_all (D : DS) : dSettle D (fun i => (List.replicate D.pend.length (128 : Int)).getD i 0) = dSettle D (fun _ => 128) := by
 unfold dSettle
 rw [settleFrom_congr _ (fun _ => 128) D.pend 0 D.pages (fun k _ h => by simp [List.getD, show k < D.pend.length by omega])]
theorem Row.is {w : World} {v : Value} {l : List Int} (h : Row w 3 1 v l.length (l.map (.int .i64 ·))) (hl : ∀ x ∈ l, -9223372036854775808 ≤ x ∧ x ≤ 9223372036854775807) : Is w v l := by
 obtain ⟨hlen, ⟨rfl, h0⟩ | ⟨g, cap, cur, rfl, hb, hh, hn, hm, hs, ht⟩⟩ := id h
 ·exact ⟨none, 0, by rw [h0], by omega, by unfold maxLen; omega, hl, fun hp => by omega⟩
 ·exact ⟨_, cap, rfl, hn, hm, hl, fun hp => ⟨g, 0, rfl, (World.ownsRow.lt h g rfl).2, fun j u hj => by have := World.ownsRow.cells h (g := g) rfl j u hj; rwa [add_plain] at this⟩⟩
theorem info_int : (Tryz.prog.info? 3).map (fun i => (i.zero, i.size, i.bytes)) = some (some (.int .i64 0), 1, 8) := by kernel_rfl
/-- Between two rounds of Sync: k numbers 128 in the call's own row. -/
def SyR (w : World) (A : Option Addr) (n c : Nat) (B : Option Addr) (m b : Nat) (z : Int) (w0 : World) (v4 v5 : Value) (W : World) : Prop :=
 ∃ k : Nat, v5 = .int .i64 k ∧ k ≤ m ∧ Row W 3 1 v4 k ((List.replicate k (128 : Int)).map (.int .i64 ·)) ∧ (∀ j, v4.ownBlock = some j → w.heap.size + 2 ≤ j) ∧
  Blk W w.heap.size 32 #[.slice A n c, .slice B m b, .int .i64 z, .bool false] ∧ Blk W (w.heap.size + 1) 32 #[.slice none 0 0, .slice none 0 0, .int .i64 0, .bool false] ∧ Below w.heap.size w W ∧ w.heap.size + 2 ≤ W.heap.size
set_option maxRecDepth 100000 in
set_option maxHeartbeats 4000000 in
theorem sync_r (F : List Nat) (v : Value) (D : DS) (w : World) (h : Rf w F v D) (hF : ∀ j ∈ F, j < w.heap.size) (hpl : D.pend.length ≤ 1000000) (hpg : D.pages.length ≤ 1000000) :
 Calls Tryz.prog 17 #[v] w (GivesRE w F (dSync D)) := by
 have HF := hide hF
 have hok := h.ok
 have HOKS := hide (dSync_ok hok)
 obtain ⟨A, n, c, B, m, b, vs, xs, rfl, hk⟩ := h.form
 have hnm : D.pend.length = m := by have := hk.pend.2; rcases this with ⟨e, h0⟩ | ⟨g, cap, cur, e, _⟩ <;> (injection e with e1 e2 e3; omega)
 cases hfl : D.failed with
 | true =>
  have e : dSync D = (D, 10) := by unfold dSync; rw [if_pos hfl]
  rw [e]
  have HK := hide hk
  unfold rv
  rw [hfl]
  clear e h hF hpl hpg hk HOKS hok hnm
  generalize hz : D.fuse = z
  go_enter Tryz.func17, Tryz.ntmps17
  go_wp2_with fail
  refine bodyPost_ret (v := .tuple #[.agg #[.slice A n c, .slice B m b, .int .i64 z, .bool true], .int .i64 10]) (by simp [results, Tryz.results17, go_sem]) rfl ?_
  exact ⟨_, rfl, ⟨_, _, vs, xs, by simp [rv, hz, hfl], HK.out.step (below_two _ _ _)⟩, below_two _ _ _⟩
 | false =>
  have HBU := hide (fun w => burn_v A n c B m b D hok.fuse w)
  have HPP := hide (dBurn_pages D)
  have HOKB := hide (dBurn_ok hok)
  by_cases hb2 : (dBurn D).2 = 0
  ·have e : dSync D = (dSettle (dBurn D).1 (fun _ => 128), 0) := by unfold dSync; rw [if_neg (by simp [hfl]), if_pos hb2]
   have hbf : (dBurn D).1.failed = false := by
    unfold dBurn at hb2 ⊢
    split
    ·rename_i h0; rw [if_pos h0] at hb2; simp at hb2
    ·split <;> simpa using hfl
   have hpm : (dBurn D).1.pend.length = m := by rw [HPP.out.2]; exact hnm
   have hall := dSettle_all (dBurn D).1
   rw [hpm] at hall
   rw [e, ← hall]
   have HSE := hide (fun (w' : World) (s : Value) (k : Below w.heap.size w w') (k2 : w.heap.size + 2 ≤ w'.heap.size) (hs : Is w' s (List.replicate m (128 : Int))) => settle_r ([w.heap.size, w.heap.size + 1] ++ F) (rv (.slice A n c) (.slice B m b) (dBurn D).1) (dBurn D).1 s _ w' ⟨_, _, vs, xs, rfl, ((hk.other HPP.out.1 HPP.out.2 HOKB.out).touch (Touch.below k F) (two_in F w))⟩ hs (two_lt hF k2) (by rw [hpm]; omega) (by rw [HPP.out.1]; exact hpg))
   have HM : Hid (m ≤ 1000000) := hide (by omega)
   unfold rv at HSE HBU ⊢
   unfold Val2 rv at HBU
   rw [hbf] at HSE HBU
   rw [hfl] at HBU ⊢
   generalize D.fuse = z at *
   generalize (dBurn D).1.fuse = z1 at *
   generalize dSettle (dBurn D).1 (fun i => (List.replicate m (128 : Int)).getD i 0) = D2 at *
   clear e hall hbf hb2 h hk hF hok hnm hpl hpg hpm HOKS HOKB HPP
   go_enter Tryz.func17, Tryz.ntmps17
   go_wp2_with fail
   refine (HBU.out _).mono ?_
   rintro e w1 ⟨rfl, hb1⟩
   have hx1 : Blk w1 w.heap.size 32 #[.slice A n c, .slice B m b, .int .i64 z, .bool false] := ((Blk.new w 32 _).alloc _).step hb1
   have hx2 : Blk w1 (w.heap.size + 1) 32 #[.slice none 0 0, .slice none 0 0, .int .i64 0, .bool false] := by
    have h := Blk.new (w.alloc (Obj.cells #[Value.slice A n c, Value.slice B m b, Value.int IntKind.i64 z, Value.bool false] 32)) 32 #[.slice none 0 0, .slice none 0 0, .int .i64 0, .bool false]
    rw [World.size_alloc] at h
    exact h.step hb1
   have HB1 : Hid (Below w.heap.size w w1) := hide ((below_two w _ _).trans (hb1.mono (by simp [Nat.add_assoc])))
   have HS1 : Hid (w.heap.size + 2 ≤ w1.heap.size) := hide (by have := hb1.size; simp at this; omega)
   have HX := hide hx1
   have HX2 := hide hx2
   clear hb1 hx1 hx2 HBU
   go_wp2_with (first
    | (refine wpList_store_blk rfl 32 (.tmp 1) (.tmp 10) rfl w.heap.size 32 #[.slice A n c, .slice B m b, .int .i64 z, .bool false] #[.slice A n c, .slice B m b, .int .i64 z1, .bool false] rfl rfl HX.out rfl size_disk (one_rv _ _ _ _ _ _ _ _) ?_; intro W2 hx1 ht2 hs2; obtain ⟨k0, k1, k2, k3, f0, f1, f2, f3⟩ := blk4 hx1; have HX1 := hide hx1; have HT2 := hide ht2; have HS2 := hide hs2; have HY2 := hide (HX2.out.touch ht2 (by simp)); have HB2 : Hid (Below w.heap.size w W2) := hide (Below.touch HB1.out ht2 (by simp) HB1.out.size); clear hx1 ht2 hs2))
   clear k0 k1 k2 k3 f0 f1 f2 f3
   go_loopw [4, 5] (fun v4 v5 wr => SyR w A n c B m b z1 w v4 v5 wr) (fun _ v5 _ => m - (intOf v5).toNat)
   case atStart =>
    have hs2 : W2.heap.size = w1.heap.size := HS2.out
    exact ⟨0, rfl, Nat.zero_le _, ownsRow_low (ownsRow_empty W2 W2.heap.size 3 1 (Nat.le_refl _)), fun j hj => by have e : W2.heap.size = j := (by injection hj); have := HS1.out; omega, HX1.out.alloc _, HY2.out.alloc _, HB2.out.alloc HB2.out.size _, by have := HS1.out; rw [World.size_alloc]; omega⟩
   case round =>
    obtain ⟨k, rfl, hkm, hrow, hown, hbox, hres, hbw, hsz⟩ := hrel
    obtain ⟨k0, k1, k2, k3, f0, f1, f2, f3⟩ := blk4 hbox
    have HROW := hide hrow
    have HOWN := hide hown
    have HBOX := hide hbox
    have HRES := hide hres
    have HBW := hide hbw
    have HSZ := hide hsz
    obtain ⟨A4, c4, rfl, _, _⟩ := hrow.form
    clear hrow hown hbox hres hbw hsz HX1 HY2 HB2 HT2 HS2 HX HX2 HB1 HS1
    obtain ⟨i0, hi0, hz0, hz1, hz2⟩ := info_parts info_int
    by_cases hlt : k < m
    ·have hkm' : (k : Int) < (m : Int) := by omega
     have HLT := hide hlt
     clear hlt hkm
     go_wp2_with (first
      | (refine wpList_append_row rfl (.tmp 22) (.tmp 23) 40 rfl 0 0 3 i0 _ 1 8 Tryz.underlying40 hi0 hz0 hz1 hz2 rfl (by decide) (v := .slice A4 k c4) (n := k) (m := 1) rfl (World.ownsRow.alloc HROW.out _) rfl (row_lit wr 0 3 1 1 [.int .i64 128] rfl (by decide) (Nat.zero_le _)) (by intro u hu; simp at hu; subst hu; rfl) (by have := HM.out; have := HLT.out; unfold maxLen; omega) (by have := HM.out; have := HLT.out; omega) (Nat.zero_le _) ?_; intro v1 W3 how hg hat; obtain ⟨A5, c5, rfl, _⟩ := Row.form how; have HO := hide how; have HG := hide hg; have HA := hide hat; clear how hg hat))
     go_roundw
     case rel =>
      have hgs := HG.out.size
      rw [World.size_alloc] at hgs
      have hb3 := HBW.out.alloc HBW.out.size (.cells #[.int .i64 128] 3)
      have hown2 := HOWN.out
      have hsz := HSZ.out
      refine ⟨k + 1, by go_num, HLT.out, ?_, ?_, ?_, ?_, ?_, by omega⟩
      ·have e : (List.replicate (k + 1) (128 : Int)).map (Value.int IntKind.i64 ·) = (List.replicate k (128 : Int)).map (Value.int IntKind.i64 ·) ++ [.int .i64 128] := by rw [List.replicate_succ']; simp
       rw [e]; exact HO.out
      ·intro j hj
       rcases HA.out with e | e
       ·exact hown2 j (by rw [← e]; exact hj)
       ·have e2 : j = (wr.alloc (.cells #[.int .i64 128] 3)).heap.size := by rw [hj] at e; injection e
        rw [World.size_alloc] at e2; omega
      ·exact (HBOX.out.alloc _).grown HG.out (fun e => by have := hown2 _ e.symm; omega)
      ·exact (HRES.out.alloc _).grown HG.out (fun e => by have := hown2 _ e.symm; omega)
      ·exact hb3.grown HG.out (by rw [World.size_alloc]; have := HBW.out.size; omega) (fun j e => by have := hown2 j e; omega)
     case measure => have := HLT.out; simp [intOf]; omega
    ·obtain rfl : k = m := by omega
     have HIS : Hid (Is wr (.slice A4 k c4) (List.replicate k (128 : Int))) := hide (Row.is (by have := HROW.out; rwa [show (List.replicate k (128 : Int)).length = k by simp]) (by intro x hx; have := List.eq_of_mem_replicate hx; omega))
     obtain ⟨j0, j1, j2, j3, g0, g1, g2, g3⟩ := blk4 HRES.out
     clear hlt hkm
     go_wp2_with fail
     refine (HSE.out wr _ HBW.out HSZ.out HIS.out).mono ?_
     rintro e W5 ⟨v5, rfl, hr5, hb5⟩
     obtain ⟨A6, n6, c6, B6, m6, b6, vs6, xs6, rfl, hk6⟩ := hr5.form
     unfold rv
     have HK6 := hide hk6
     have hy5 := HRES.out.step hb5
     have HY5 := hide hy5
     have HB5 : Hid (Below w.heap.size w W5) := hide (HBW.out.trans (hb5.mono HBW.out.size))
     clear j0 j1 j2 j3 g0 g1 g2 g3 k0 k1 k2 k3 f0 f1 f2 f3 hr5 hk6 hb5
     obtain ⟨j0, j1, j2, j3, g0, g1, g2, g3⟩ := blk4 hy5
     clear hy5
     go_wp2_with fail
     refine bodyPost_ret (results_row_tmp rfl _ _ (w.heap.size + 1) 32 #[.slice A6 n6 c6, .slice B6 m6 b6, .int .i64 D2.fuse, .bool D2.failed] (0, 0) _ (.int .i64 0) rfl rfl ?hr Tryz.underlying32 rfl size_disk) rfl ?hp
     case hr => exact ((((HY5.out.put 0 _).put 1 _).put 2 _).put 3 _)
     case hp =>
      have T5 : Touch [w.heap.size, w.heap.size + 1] W5 _ := ((((Touch.refl [w.heap.size, w.heap.size + 1] W5).set (g := w.heap.size + 1) (.inl (by simp)) 0 (.slice A6 n6 c6)).set (g := w.heap.size + 1) (.inl (by simp)) 1 (.slice B6 m6 b6)).set (g := w.heap.size + 1) (.inl (by simp)) 2 (.int .i64 D2.fuse)).set (g := w.heap.size + 1) (.inl (by simp)) 3 (.bool D2.failed)
      generalize hWf : (World.setCell _ _ _) = Wf at T5 ⊢
      exact ⟨_, rfl, ⟨_, _, vs6, xs6, rfl, HK6.out.stored T5⟩, Below.touch HB5.out T5 (by simp) HB5.out.size⟩
  ·have hb0 : D.fuse = 0 := by
    apply Decidable.byContradiction
    intro hne
    apply hb2
    unfold dBurn; rw [if_neg hne]; split <;> rfl
   have hb : dBurn D = ({ D with failed := true }, 10) := by unfold dBurn; rw [if_pos hb0]
   have e : dSync D = ({ D with failed := true }, 10) := by unfold dSync; rw [if_neg (by simp [hfl]), if_neg (by rw [hb]; simp), hb]
   rw [e] at HOKS ⊢
   rw [hb] at HBU
   have HK := hide hk
   unfold Val2 rv at HBU
   unfold rv
   simp only at HBU ⊢
   rw [hfl] at HBU ⊢
   rw [hb0] at HBU ⊢
   clear e hb hb2 h hk hF hok hnm hpl hpg HOKB HPP
   go_enter Tryz.func17, Tryz.ntmps17
   go_wp2_with fail
   refine (HBU.out _).mono ?_
   rintro e w1 ⟨rfl, hb1⟩
   have hx1 : Blk w1 w.heap.size 32 #[.slice A n c, .slice B m b, .int .i64 0, .bool false] := ((Blk.new w 32 _).alloc _).step hb1
   have hx2 : Blk w1 (w.heap.size + 1) 32 #[.slice none 0 0, .slice none 0 0, .int .i64 0, .bool false] := by
    have h := Blk.new (w.alloc (Obj.cells #[Value.slice A n c, Value.slice B m b, Value.int IntKind.i64 0, Value.bool false] 32)) 32 #[.slice none 0 0, .slice none 0 0, .int .i64 0, .bool false]
    rw [World.size_alloc] at h
    exact h.step hb1
   have HB1 : Hid (Below w.heap.size w w1) := hide ((below_two w _ _).trans (hb1.mono (by simp [Nat.add_assoc])))
   have HX2 := hide hx2
   obtain ⟨k0, k1, k2, k3, f0, f1, f2, f3⟩ := blk4 hx1
   obtain ⟨j0, j1, j2, j3, g0, g1, g2, g3⟩ := blk4 hx2
   clear hb1 hx1 hx2 HBU
   go_wp2_with fail
   refine bodyPost_ret (results_row_tmp rfl _ _ (w.heap.size + 1) 32 #[.slice A n c, .slice B m b, .int .i64 0, .bool true] (0, 0) _ (.int .i64 10) rfl rfl ?hr Tryz.underlying32 rfl size_disk) rfl ?hp
   case hr => exact ((((((((HX2.out.far (by simp) _).far (by simp) _).far (by simp) _).far (by simp) _).put 0 _).put 1 _).put 2 _).put 3 _)
   case hp =>
    have T5 : Touch [w.heap.size, w.heap.size + 1] w1 _ := (((((((((Touch.refl [w.heap.size, w.heap.size + 1] w1).set (g := w.heap.size) (.inl (by simp)) 0 (.slice A n c)).set (g := w.heap.size) (.inl (by simp)) 1 (.slice B m b)).set (g := w.heap.size) (.inl (by simp)) 2 (.int .i64 0)).set (g := w.heap.size) (.inl (by simp)) 3 (.bool true)).set (g := w.heap.size + 1) (.inl (by simp)) 0 (.slice A n c)).set (g := w.heap.size + 1) (.inl (by simp)) 1 (.slice B m b)).set (g := w.heap.size + 1) (.inl (by simp)) 2 (.int .i64 0)).set (g := w.heap.size + 1) (.inl (by simp)) 3 (.bool true))
    generalize hWf : (World.setCell _ _ _) = Wf at T5 ⊢
    have hbf := Below.touch HB1.out T5 (by simp) HB1.out.size
    exact ⟨_, rfl, ⟨_, _, vs, xs, by simp [rv, hb0], (HK.out.step hbf).other rfl rfl (by have h := HOKS.out; rw [hb0] at h; exact h)⟩, hbf⟩
end
end Go.Proofs.YtpadgkkeihhneaaGreat
