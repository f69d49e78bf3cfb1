/- ClockReads' walk. -/
import Derived.Test.YtbdddgaakekbhaaReadsFns
import Derived.Deep.RegionHeld3
import Derived.Deep.AppendLies
import Derived.Deep.DeepCutAuto
namespace Go.Proofs.Ytbdddgaakekbhaa
open Go.ChangeShapes Go.WideShapes Go.ChangeAt Go.RowKit
set_option linter.unusedVariables false

/-- A box of a reference clock. -/
def XB (w : World) (g : Nat) (u t : Int) : Prop := Blk w g 27 #[.int .i64 u, .int .i64 t]
theorem XB.c0 {w : World} {g : Nat} {u t : Int} (h : XB w g u t) : w.cell? ⟨g, 0, none⟩ = some (.int .i64 u) := (Blk.cell h 0).trans rfl
theorem XB.c1 {w : World} {g : Nat} {u t : Int} (h : XB w g u t) : w.cell? ⟨g, 1, none⟩ = some (.int .i64 t) := (Blk.cell h 1).trans rfl
theorem XB.ne {w : World} {g g' : Nat} {u t u' t' : Int} (h : XB w g u t) (h' : CB w g' u' t') : g ≠ g' := by
  rintro rfl
  unfold XB Blk at h
  unfold CB at h'
  rw [h] at h'
  injection h' with h'
  injection h' with _ ht
  exact absurd ht (by decide)
theorem XB.put {w : World} {g : Nat} {u t u' t' : Int} (h : XB w g u t) : XB ((w.setCell ⟨g, 0, none⟩ (.int .i64 u')).setCell ⟨g, 1, none⟩ (.int .i64 t')) g u' t' :=
  (Blk.put (Blk.put h 0 (.int .i64 u')) 1 (.int .i64 t'))

/-- Where the loop stands: the clock and its model, the copy and its model. -/
def Rd (W : World) (gc gp gx gy : Nat) (u t u' t' : Int) (w : World) : Prop :=
  At W gc u t w ∧ At W gp u' t' w ∧ gc ≠ gp ∧ XB w gx u t ∧ XB w gy u' t' ∧ gx ≠ gy ∧ W.heap.size ≤ gx ∧ W.heap.size ≤ gy

theorem CB.far {w : World} {g : Nat} {u t : Int} (h : CB w g u t) {p : Addr} (hp : g ≠ p.block) (x : Value) : CB (w.setCell p x) g u t := (Below.heap_setCell w p x g hp).trans h
theorem At.far {W w : World} {g : Nat} {u t : Int} (h : At W g u t w) {p : Addr} (hp : g ≠ p.block) (hW : W.heap.size ≤ p.block) (x : Value) : At W g u t (w.setCell p x) :=
  ⟨h.1.far hp x, h.2.1, h.2.2.1.setCell hW x, h.2.2.2⟩
theorem At.alloc {W w : World} {g : Nat} {u t : Int} (h : At W g u t w) (o : Obj) : At W g u t (w.alloc o) :=
  ⟨h.1.alloc o, h.2.1, h.2.2.1.alloc h.2.2.1.size o, h.2.2.2⟩
theorem At.drew {W w : World} {g : Nat} {u t : Int} (h : At W g u t w) : At W g u t w.drew := ⟨h.1, h.2.1, h.2.2.1.drew, h.2.2.2⟩
theorem Rd.drew {W w : World} {gc gp gx gy : Nat} {u t u' t' : Int} (h : Rd W gc gp gx gy u t u' t' w) : Rd W gc gp gx gy u t u' t' w.drew :=
  ⟨h.1.drew, h.2.1.drew, h.2.2.1, h.2.2.2.1, h.2.2.2.2.1, h.2.2.2.2.2⟩
theorem Rd.clone {W w : World} {gc gp gx gy : Nat} {u t u' t' : Int} (h : Rd W gc gp gx gy u t u' t' w) :
    Rd W gc w.heap.size gx gy u t u t (((w.setCell ⟨gy, 0, none⟩ (.int .i64 u)).setCell ⟨gy, 1, none⟩ (.int .i64 t)).alloc (.cells #[.int .i64 u, .int .i64 t] 47)).drew := by
  obtain ⟨h1, h2, h3, h4, h5, h6, h7, h8⟩ := h
  have hcy : gc ≠ gy := Ne.symm (h5.ne h1.1)
  have hnc : gc ≠ w.heap.size := by have := h1.1.lt; omega
  have hb := h1.2.2.1.size
  have a1 : At W gc u t ((w.setCell ⟨gy, 0, none⟩ (.int .i64 u)).setCell ⟨gy, 1, none⟩ (.int .i64 t)) := (h1.far hcy h8 _).far hcy h8 _
  have hs : ((w.setCell ⟨gy, 0, none⟩ (.int .i64 u)).setCell ⟨gy, 1, none⟩ (.int .i64 t)).heap.size = w.heap.size := by simp [World.setCell]
  have n1 := CB.new ((w.setCell ⟨gy, 0, none⟩ (.int .i64 u)).setCell ⟨gy, 1, none⟩ (.int .i64 t)) u t
  rw [hs] at n1
  exact ⟨(a1.alloc _).drew, ⟨n1, h1.2.1, (a1.alloc _).2.2.1.drew, hb⟩, hnc, Blk.alloc ((Blk.far h4 h6 _).far h6 _) _, Blk.alloc (XB.put h5) _, h6, h7, h8⟩

theorem At.below {W w w' : World} {g : Nat} {u t : Int} (h : At W g u t w) (hb : Below w.heap.size w w') : At W g u t w' :=
  ⟨h.1.below hb h.1.lt, h.2.1, h.2.2.1.trans (hb.mono h.2.2.1.size), h.2.2.2⟩
theorem Rd.below {W w w' : World} {gc gp gx gy : Nat} {u t u' t' : Int} (h : Rd W gc gp gx gy u t u' t' w) (hb : Below w.heap.size w w') : Rd W gc gp gx gy u t u' t' w' :=
  ⟨h.1.below hb, h.2.1.below hb, h.2.2.1, Blk.step h.2.2.2.1 hb, Blk.step h.2.2.2.2.1 hb, h.2.2.2.2.2⟩
theorem Rd.next {W w : World} {gc gp gx gy : Nat} {u t u' t' a b : Int} (h1 : At W gc a b w) (h2 : At W gp u' t' w) (h3 : gc ≠ gp) (h4 : XB w gx u t) (h5 : XB w gy u' t') (h6 : gx ≠ gy ∧ W.heap.size ≤ gx ∧ W.heap.size ≤ gy) :
    Rd W gc gp gx gy a b u' t' ((w.setCell ⟨gx, 0, none⟩ (.int .i64 a)).setCell ⟨gx, 1, none⟩ (.int .i64 b)) := by
  have hc : gc ≠ gx := Ne.symm (h4.ne h1.1)
  have hp : gp ≠ gx := Ne.symm (h4.ne h2.1)
  exact ⟨(h1.far hc h6.2.1 _).far hc h6.2.1 _, (h2.far hp h6.2.1 _).far hp h6.2.1 _, h3, XB.put h4, (Blk.far h5 (Ne.symm h6.1) _).far (Ne.symm h6.1) _, h6⟩
theorem below_undrew {B : Nat} {w w' : World} (h : Below B w.drew w') : Below B w w' := ⟨h.os, h.tape, h.output, h.size, h.block⟩
theorem zero_kept {wc w2 : World} {o : Array Value} {T : TypeId} (hb : Below ((wc.alloc (.cells o T)).drew).heap.size (wc.alloc (.cells o T)).drew w2) (i : Nat) :
    w2.cell? ⟨wc.heap.size, i, none⟩ = o[i]? ∧ w2.frozen? ⟨wc.heap.size, i, none⟩ = false := by
  have hn : Blk (wc.alloc (.cells o T)).drew wc.heap.size T o := Blk.new wc T o
  have h2 := hn.below hb hn.lt
  exact ⟨h2.cell i, h2.froz i⟩

theorem far2 {w : World} {g g' i a b : Nat} {x y : Value} {v : Option Value} (h : w.cell? ⟨g, i, none⟩ = v) (hne : g ≠ g') : ((w.setCell ⟨g', a, none⟩ x).setCell ⟨g', b, none⟩ y).cell? ⟨g, i, none⟩ = v := by
  rw [World.cell?_of_block (w := w.setCell ⟨g', a, none⟩ x) (Below.heap_setCell _ _ _ _ hne), World.cell?_of_block (w := w) (Below.heap_setCell _ _ _ _ hne)]
  exact h

set_option maxHeartbeats 4000000 in
theorem walkClockReads (W : World) (v0 : Value) (l0 : List (Int × Int)) (h0 : StepsIn W v0 l0) (at_ : Int) (wat : (Lit.int .u8 at_).wf = true) :
    Calls Try.prog 3 #[v0, .int .u8 at_] W fun e w' => e = .returned (.bool true) ∧ Below W.heap.size W w' := by
  obtain ⟨A, ca, rfl, ma⟩ := h0.form
  generalize l0.length = n at *
  have ⟨hr0, hr1⟩ : 0 ≤ at_ ∧ at_ ≤ 255 := by simpa [Lit.wf, IntKind.min, IntKind.max, IntKind.signed, IntKind.bits] using wat
  by_cases c1 : 40 < n
  · go_enter Try.func3, Try.ntmps3
    go_wp2_with fail
    refine (awake_any _).mono ?_
    rintro e w1 ⟨rfl, hb⟩
    go_wp2_with fail
    go_ret
    exact ⟨rfl, hb⟩
  go_enter Try.func3, Try.ntmps3
  go_wp2_with fail
  refine (awake_any _).mono ?_
  rintro e wa ⟨rfl, hb⟩
  go_wp2_with fail
  refine (new_c _).mono ?_
  rintro e w1 ⟨rfl, rfl⟩
  go_wp2_with fail
  refine (new_c _).mono ?_
  rintro e w2 ⟨rfl, rfl⟩
  go_wp2_with fail
  have hst : Rd W wa.heap.size (wa.heap.size + 1) (wa.heap.size + 1 + 1) (wa.heap.size + 1 + 1 + 1) 0 0 0 0 ((((wa.alloc (.cells #[.int .i64 0, .int .i64 0] 47)).alloc (.cells #[.int .i64 0, .int .i64 0] 47)).alloc (.cells #[.int .i64 0, .int .i64 0] 27)).alloc (.cells #[.int .i64 0, .int .i64 0] 27)) := by
    have hs := hb.size
    have hB : Below W.heap.size W ((((wa.alloc (.cells #[.int .i64 0, .int .i64 0] 47)).alloc (.cells #[.int .i64 0, .int .i64 0] 47)).alloc (.cells #[.int .i64 0, .int .i64 0] 27)).alloc (.cells #[.int .i64 0, .int .i64 0] 27)) :=
      (((hb.alloc hb.size _).alloc (by simp; omega) _).alloc (by simp; omega) _).alloc (by simp; omega) _
    have e1 := CB.new wa 0 0
    have e2 := CB.new (wa.alloc (.cells #[.int .i64 0, .int .i64 0] 47)) 0 0
    have e3 := Blk.new ((wa.alloc (.cells #[.int .i64 0, .int .i64 0] 47)).alloc (.cells #[.int .i64 0, .int .i64 0] 47)) 27 #[.int .i64 0, .int .i64 0]
    have e4 := Blk.new (((wa.alloc (.cells #[.int .i64 0, .int .i64 0] 47)).alloc (.cells #[.int .i64 0, .int .i64 0] 47)).alloc (.cells #[.int .i64 0, .int .i64 0] 27)) 27 #[.int .i64 0, .int .i64 0]
    simp only [World.size_alloc] at e2 e3 e4
    exact ⟨⟨((e1.alloc _).alloc _).alloc _, by unfold Fits; omega, hB, hs⟩, ⟨(e2.alloc _).alloc _, by unfold Fits; omega, hB, by omega⟩, by omega, e3.alloc _, e4, by omega, by omega, by omega⟩
  generalize wa.heap.size + 1 + 1 + 1 = gy at *
  generalize wa.heap.size + 1 + 1 = gx at *
  generalize wa.heap.size + 1 = gp at *
  generalize wa.heap.size = gc at *
  generalize (((wa.alloc (.cells #[.int .i64 0, .int .i64 0] 47)).alloc (.cells #[.int .i64 0, .int .i64 0] 47)).alloc (.cells #[.int .i64 0, .int .i64 0] 27)).alloc (.cells #[.int .i64 0, .int .i64 0] 27) = w3 at *
  clear hb wa
  go_loopw [6, 9] (fun c i wr => ∃ k : Nat, k ≤ n ∧ i = .int .i64 k ∧ ∃ gp u t u' t', c = .pointer (some ⟨gp, 0, none⟩) ∧ Rd W gc gp gx gy u t u' t' wr) (fun _ i _ => n - (intOf i).toNat)
  case atStart => exact ⟨0, Nat.zero_le _, rfl, gp, 0, 0, 0, 0, rfl, hst⟩
  case round =>
    obtain ⟨k, hk, rfl, gq, u, t, u', t', rfl, hat⟩ := hrel
    by_cases hlt : k < n
    · obtain ⟨bk, off, tk, rt, rfl, hbl, _, hlo, hhi, hc0W, hc1W⟩ := h0.at_ (Below.refl _ _) hlt
      have HC0 := hide hc0W
      have HC1 := hide hc1W
      clear hc0W hc1W
      go_upto_if 36 with fail
      go_cut [6] (fun c wr => ∃ gq u' t', c = .pointer (some ⟨gq, 0, none⟩) ∧ Rd W gc gq gx gy u t u' t' wr)
      case first =>
        by_cases hat0 : (k : Int) = at_
        · have hq : ((k : Int) == at_) = true := by simpa using hat0
          clear hat0
          have y0 := hat.2.2.2.2.1.c0
          have y1 := hat.2.2.2.2.1.c1
          have fy0 := hat.2.2.2.2.1.froz 0
          have fy1 := hat.2.2.2.2.1.froz 1
          have hxy : gx ≠ gy := hat.2.2.2.2.2.1
          have hyx : gy ≠ gx := Ne.symm hxy
          have hgy := hat.2.2.2.2.1.lt
          have hgx := hat.2.2.2.1.lt
          go_wp2_with fail
          have x0 := hat.2.2.2.1.c0
          have x1 := hat.2.2.2.1.c1
          go_region_held3 (fun w' => w'.cell? ⟨gx, 0, none⟩ = some (.int .i64 u) ∧ w'.cell? ⟨gx, 1, none⟩ = some (.int .i64 t))
            (first | go_keep | (go_simp; done))
            (first | (go_at_call 12; refine (clone_c _ gc u t (CB.drew hat.1.1)).mono ?_; rintro e w2 ⟨rfl, rfl⟩))
          go_wp2_with fail
          go_meet
          exact ⟨_, _, _, rfl, hat.clone⟩
        · have hq : ((k : Int) == at_) = false := by simpa using hat0
          clear hat0
          go_wp2_with fail
          go_meet
          exact ⟨gq, u', t', rfl, hat⟩
      case rest =>
        obtain ⟨gq, u', t', rfl, hat⟩ := hcut
        obtain ⟨wo, rfl⟩ : ∃ wo : World, wo = wc := ⟨_, rfl⟩
        have hc0 : wo.cell? ⟨bk, off + k * 2, none⟩ = some (.int .i64 tk) := (hat.1.2.2.1.cell (p := ⟨bk, _, none⟩) hbl).trans HC0.out
        have hc1 : wo.cell? ⟨bk, off + k * 2 + 1, none⟩ = some (.int .i64 rt) := (hat.1.2.2.1.cell (p := ⟨bk, _, none⟩) hbl).trans HC1.out
        have hblt : bk < wo.heap.size := by have := hat.1.2.2.1.size; omega
        have x0 := hat.2.2.2.1.c0
        have x1 := hat.2.2.2.1.c1
        have hgx := hat.2.2.2.1.lt
        go_upto_region 16 with fail
        go_cut [10, 11] (fun p e wn => ∃ gn, p = .pointer (some ⟨gn, 0, none⟩) ∧ e = .int .i64 (advE t tk rt) ∧ XB wn gn (advU u t tk rt) (advT t tk rt) ∧ wo.heap.size ≤ gn ∧ Below wo.heap.size wo wn)
        case first =>
          go_region_held3 (fun w' => w'.cell? ⟨gx, 0, none⟩ = some (.int .i64 u) ∧ w'.cell? ⟨gx, 1, none⟩ = some (.int .i64 t) ∧ w'.cell? ⟨bk, off + k * 2, none⟩ = some (.int .i64 tk) ∧ w'.cell? ⟨bk, off + k * 2 + 1, none⟩ = some (.int .i64 rt))
            (first | go_keep | exact ⟨k0, k1, k2, k3⟩ | exact ⟨(World.cell?_alloc_lt _ _ ⟨gx, _, none⟩ hx2).trans k0, (World.cell?_alloc_lt _ _ ⟨gx, _, none⟩ hx2).trans k1, (World.cell?_alloc_lt _ _ ⟨bk, _, none⟩ hb2).trans k2, (World.cell?_alloc_lt _ _ ⟨bk, _, none⟩ hb2).trans k3⟩ | exact ⟨far2 k0 (Nat.ne_of_lt hgx), far2 k1 (Nat.ne_of_lt hgx), far2 k2 (Nat.ne_of_lt hblt), far2 k3 (Nat.ne_of_lt hblt)⟩)
            (first | (go_at_call 13; refine (refAdvance_c _ u t _ _ hat.1.2.1 hlo hhi).mono ?_; rintro e w2 ⟨rfl, hbx⟩; have hx2 : gx < w2.heap.size := (by have := hbx.size; simp at this; omega); have hb2 : bk < w2.heap.size := (by have := hbx.size; simp at this; omega); have k0 : w2.cell? ⟨gx, 0, none⟩ = _ := (hbx.cell (p := ⟨gx, _, none⟩) (by simp; omega)).trans (by first | exact x0 | exact (World.cell?_alloc_lt wo _ ⟨gx, _, none⟩ hgx).trans x0); have k1 : w2.cell? ⟨gx, 1, none⟩ = _ := (hbx.cell (p := ⟨gx, _, none⟩) (by simp; omega)).trans (by first | exact x1 | exact (World.cell?_alloc_lt wo _ ⟨gx, _, none⟩ hgx).trans x1); have k2 : w2.cell? ⟨bk, off + k * 2, none⟩ = _ := (hbx.cell (p := ⟨bk, _, none⟩) (by simp; omega)).trans (by first | exact hc0 | exact (World.cell?_alloc_lt wo _ ⟨bk, _, none⟩ hblt).trans hc0); have k3 : w2.cell? ⟨bk, off + k * 2 + 1, none⟩ = _ := (hbx.cell (p := ⟨bk, _, none⟩) (by simp; omega)).trans (by first | exact hc1 | exact (World.cell?_alloc_lt wo _ ⟨bk, _, none⟩ hblt).trans hc1); (try (have n0 := (zero_kept hbx 0).1; have n1 := (zero_kept hbx 1).1; have m0 := (zero_kept hbx 0).2; have m1 := (zero_kept hbx 1).2; simp at n0 n1))))
          all_goals (go_wp2_with fail; go_meet)
          · exact ⟨_, rfl, rfl, Blk.new _ _ _, hbx.size, (below_undrew hbx).alloc hbx.size _⟩
          · have hz : XB (wo.alloc (.cells #[.int .i64 0, .int .i64 0] 27)) wo.heap.size 0 0 := Blk.new _ _ _
            have hz2 := Blk.below hz (below_undrew hbx) (by simp)
            exact ⟨_, rfl, rfl, XB.put hz2, Nat.le_refl _, ((((Below.refl _ _).alloc (Nat.le_refl _) _).trans ((below_undrew hbx).mono (by simp))).setCell (Nat.le_refl _) _).setCell (Nat.le_refl _) _⟩
        case rest =>
          obtain ⟨gn, rfl, rfl, hxn, hgn, hbn⟩ := hcut
          have hat2 : Rd W gc gq gx gy u t u' t' wc := hat.below hbn
          have hc0' : wc.cell? ⟨bk, off + k * 2, none⟩ = some (.int .i64 tk) := (hbn.cell (p := ⟨bk, _, none⟩) hblt).trans hc0
          have hc1' : wc.cell? ⟨bk, off + k * 2 + 1, none⟩ = some (.int .i64 rt) := (hbn.cell (p := ⟨bk, _, none⟩) hblt).trans hc1
          have hx0 := hxn.c0
          have hx1 := hxn.c1
          have hgnl := hxn.lt
          have hbl2 : bk < wc.heap.size := by have := hbn.size; omega
          have hbg : some bk ≠ some gc := by have := hat2.1.2.2.2; simp; omega
          have hgg : some gn ≠ some gc := by have := hxn.ne hat2.1.1; simpa using this
          have ⟨hn0, hn1⟩ := now_bd (fits_adv (k := tk) (r := rt) hat2.1.2.1)
          clear hc0 hc1 x0 x1
          go_wp2_with fail
          go_region_held3 (fun w' => w'.cell? ⟨bk, off + k * 2, none⟩ = some (.int .i64 tk) ∧ w'.cell? ⟨bk, off + k * 2 + 1, none⟩ = some (.int .i64 rt) ∧ w'.cell? ⟨gn, 0, none⟩ = some (.int .i64 (advU u t tk rt)) ∧ w'.cell? ⟨gn, 1, none⟩ = some (.int .i64 (advT t tk rt)))
            (first | go_keep | exact ⟨j0, j1, j2, j3⟩ | exact ⟨k0, k1, k2, k3⟩)
            (first
              | (go_at_call 14; refine (advance_c _ gc u t _ _ (CB.drew hat2.1.1) hat2.1.2.1).mono ?_; rintro e w3 ⟨rfl, hcb, hgr⟩; have k0 := (hgr.cell_far ⟨bk, _, none⟩ hbl2 hbg).trans hc0'; have k1 := (hgr.cell_far ⟨bk, _, none⟩ hbl2 hbg).trans hc1'; have k2 := (hgr.cell_far ⟨gn, _, none⟩ hgnl hgg).trans hx0; have k3 := (hgr.cell_far ⟨gn, _, none⟩ hgnl hgg).trans hx1; have z1 := Nat.lt_of_lt_of_le hbl2 hgr.size; have z2 := Nat.lt_of_lt_of_le hgnl hgr.size)
              | (go_at_call 15; refine (now_c _ gc _ _ hcb hn0 hn1).mono ?_; rintro e w4 ⟨rfl, rfl⟩)
              | (go_at_call 16; refine (refNow_c _ _ _ hn0 hn1).mono ?_; rintro e w4 ⟨rfl, hb4⟩; have j0 := (hb4.cell (p := ⟨bk, _, none⟩) z1).trans k0; have j1 := (hb4.cell (p := ⟨bk, _, none⟩) z1).trans k1; have j2 := (hb4.cell (p := ⟨gn, _, none⟩) z2).trans k2; have j3 := (hb4.cell (p := ⟨gn, _, none⟩) z2).trans k3))
          have hgr' := grown_undrew hgr
          have hA : At W gc (advU u t tk rt) (advT t tk rt) w4 := (hat2.1.adv hcb (grown_undrew hgr)).below hb4
          have hQ : At W gq u' t' w4 := At.below ⟨hat2.2.1.1.grown hgr' (by have := hat2.2.2.1; simp; omega), hat2.2.1.2.1, (hat2.1.adv hcb (grown_undrew hgr)).2.2.1, hat2.2.1.2.2.2⟩ hb4
          have hX : XB w4 gx u t := Blk.step (Blk.grown hat2.2.2.2.1 hgr' (by have := XB.ne hat2.2.2.2.1 hat2.1.1; simpa using this)) hb4
          have hY : XB w4 gy u' t' := Blk.step (Blk.grown hat2.2.2.2.2.1 hgr' (by have := XB.ne hat2.2.2.2.2.1 hat2.1.1; simpa using this)) hb4
          have hN := Rd.next hA hQ hat2.2.2.1 hX hY hat2.2.2.2.2.2
          have q0 := hX.c0
          have q1 := hX.c1
          have f0 := Blk.froz hX 0
          have f1 := Blk.froz hX 1
          clear hA hQ hX hY hc0' hc1' hx0 hx1 k0 k1 k2 k3 j0 j1 hcb
          go_wp2_with fail
          go_roundw
          case rel => exact ⟨k + 1, by omega, by go_num, gq, _, _, _, _, rfl, hN⟩
          case measure => simp [intOf]; omega
    · have y0 := hat.2.2.2.2.1.c0
      have y1 := hat.2.2.2.2.1.c1
      have hgy := hat.2.2.2.2.1.lt
      have hyq : some gy ≠ some gq := by have := XB.ne hat.2.2.2.2.1 hat.2.1.1; simpa using this
      have hgt : t' ≤ 1099511627776 := hat.2.1.2.1.2.1
      have ⟨hn0, hn1⟩ := now_bd hat.2.1.2.1
      have ⟨hm0, hm1⟩ := now_bd hat.1.2.1
      by_cases e0 : advE t' 7 65 = 0
      · have hq : (advE t' 7 65 != 0) = false := by simp [e0]
        clear e0
        go_wp2_with fail
        first | (go_region_with (first
            | (go_at_call 15; refine (now_c _ gq u' t' (CB.drew hat.2.1.1) hn0 hn1).mono ?_; rintro e w4 ⟨rfl, rfl⟩)
            | (go_at_call 16; refine (refNow_c _ _ _ hn0 hn1).mono ?_; rintro e w4 ⟨rfl, hb4⟩; have hb5 := below_undrew hb4; have hat4 := hat.below hb5)
            | (go_at_call 14; refine (advance_c _ gq u' t' _ _ hat4.2.1.1 hat4.2.1.2.1).mono ?_; rintro e w5 ⟨rfl, hcb, hgr⟩))) | fail
        all_goals
          have hgc : CB w5 gc u t := hat4.1.1.grown hgr (by have := hat4.2.2.1; simpa using this)
          have hX : XB w5 gx u t := Blk.grown hat4.2.2.2.1 hgr (by have := XB.ne hat4.2.2.2.1 hat4.2.1.1; simpa using this)
          have hB : Below W.heap.size W w5 := below_grown hat4.1.2.2.1 hgr hat4.1.2.2.1.size hat4.2.1.2.2.2
          have x0 := hX.c0
          have x1 := hX.c1
          have hgx := hX.lt
          clear y0 y1
          go_wp2_with fail
          go_region_held3 (fun w' => w'.cell? ⟨gx, 0, none⟩ = some (.int .i64 u) ∧ w'.cell? ⟨gx, 1, none⟩ = some (.int .i64 t))
            (first | go_keep | exact ⟨(hb6.cell (p := ⟨gx, _, none⟩) hgx).trans x0, (hb6.cell (p := ⟨gx, _, none⟩) hgx).trans x1⟩)
            (first
              | (go_at_call 15; refine (now_c _ gc u t (CB.drew hgc) hm0 hm1).mono ?_; rintro e w4 ⟨rfl, rfl⟩)
              | (go_at_call 16; refine (refNow_c _ _ _ hm0 hm1).mono ?_; rintro e w6 ⟨rfl, hb6⟩))
          go_wp2_with fail
          go_ret
          exact ⟨rfl, below_step hB (below_undrew hb6) hB.size⟩
      · have hq : (advE t' 7 65 != 0) = true := by simp [e0]
        have hq2 : 549755813888 < t' := by
          unfold advE at e0
          simp at e0
          omega
        clear e0
        go_wp2_with fail
        go_region_held3 (fun w' => w'.cell? ⟨gy, 0, none⟩ = some (.int .i64 u') ∧ w'.cell? ⟨gy, 1, none⟩ = some (.int .i64 t'))
          (first | go_keep | exact ⟨j0, j1⟩ | exact ⟨k0, k1⟩)
          (first
            | (go_at_call 15; refine (now_c _ gq u' t' (CB.drew hat.2.1.1) hn0 hn1).mono ?_; rintro e w4 ⟨rfl, rfl⟩)
            | (go_at_call 16; refine (refNow_c _ _ _ hn0 hn1).mono ?_; rintro e w4 ⟨rfl, hb4⟩; have hb5 := below_undrew hb4; have j0 := (hb5.cell (p := ⟨gy, _, none⟩) hgy).trans y0; have j1 := (hb5.cell (p := ⟨gy, _, none⟩) hgy).trans y1; have z2 := Nat.lt_of_lt_of_le hgy hb5.size; have hat4 := hat.below hb5)
            | (go_at_call 14; refine (advance_c _ gq u' t' _ _ hat4.2.1.1 hat4.2.1.2.1).mono ?_; rintro e w5 ⟨rfl, hcb, hgr⟩; have k0 := (hgr.cell_far ⟨gy, _, none⟩ z2 hyq).trans j0; have k1 := (hgr.cell_far ⟨gy, _, none⟩ z2 hyq).trans j1))
        have hgc : CB w5 gc u t := hat4.1.1.grown hgr (by have := hat4.2.2.1; simpa using this)
        have hX : XB w5 gx u t := Blk.grown hat4.2.2.2.1 hgr (by have := XB.ne hat4.2.2.2.1 hat4.2.1.1; simpa using this)
        have hB : Below W.heap.size W w5 := below_grown hat4.1.2.2.1 hgr hat4.1.2.2.1.size hat4.2.1.2.2.2
        have x0 := hX.c0
        have x1 := hX.c1
        have hgx := hX.lt
        clear y0 y1 j0 j1 k0 k1
        go_wp2_with fail
        go_region_held3 (fun w' => w'.cell? ⟨gx, 0, none⟩ = some (.int .i64 u) ∧ w'.cell? ⟨gx, 1, none⟩ = some (.int .i64 t))
          (first | go_keep | exact ⟨(hb6.cell (p := ⟨gx, _, none⟩) hgx).trans x0, (hb6.cell (p := ⟨gx, _, none⟩) hgx).trans x1⟩)
          (first
            | (go_at_call 15; refine (now_c _ gc u t (CB.drew hgc) hm0 hm1).mono ?_; rintro e w4 ⟨rfl, rfl⟩)
            | (go_at_call 16; refine (refNow_c _ _ _ hm0 hm1).mono ?_; rintro e w6 ⟨rfl, hb6⟩))
        go_wp2_with fail
        go_ret
        exact ⟨rfl, below_step hB (below_undrew hb6) hB.size⟩
end Go.Proofs.Ytbdddgaakekbhaa
