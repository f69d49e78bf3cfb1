/- block. -/
import Derived.Test.YtpadgkkeihhneaaGreatA20
import Derived.OwnWalk
namespace Go.Proofs.YtpadgkkeihhneaaGreat
open List renaming getElem_toArray → qa, getElem_cons_zero → qb, getElem_cons_succ → qc, setIfInBounds_toArray → qd, set_cons_zero → qe, set_cons_succ → qf
set_option maxRecDepth 100000
set_option linter.unusedSimpArgs false
set_option linter.unusedVariables false
open Go.ChangeShapes Go.WideShapes Go.ChangeAt Go.RowKit
set_option linter.unusedVariables false
set_option linter.unusedSimpArgs false

theorem below_drew (w : World) : Below w.heap.size w w.drew := ⟨rfl, rfl, rfl, Nat.le_refl _, fun _ _ => rfl⟩
theorem Hd.drew {w : World} {g d : Nat} {F : List Nat} {D : DS} (h : Hd w g d F D) : Hd w.drew g d F D := h.step (below_drew w)
theorem cat_sv (s x : List UInt8) : (Value.string ((⟨s.toArray⟩ : ByteArray) ++ (⟨x.toArray⟩ : ByteArray))) = sv (s ++ x) := by
  unfold sv
  congr 1
theorem run_cat (s x : List UInt8) (hl : s.length + x.length ≤ 1000000000) (W : World) : (binOp .add 9 (sv s) (sv x)).run Tryz.prog W = .ok (sv (s ++ x)) W := by
  rw [← cat_sv]
  unfold sv
  simp [binOp, run_underlying Tryz.underlying9, Sem.run_bind, Op.stringOp]
  show ((s.length : Int) + (x.length : Int)) ≤ _
  omega
def blkV (r : Option (List UInt8 × Nat)) : Value := .tuple #[sv ((r.map (·.1)).getD []), .int .i64 ((r.map (·.2)).getD 0 : Nat), .int .i64 0]
theorem blkF_out (D : DS) (t i a f p q : Nat) (s : List UInt8) (hf : f = half D - a - p) (h : half D ≤ a + p) : blkF D t i a f p q s = none := by
  have : f = 0 := by omega
  subst this
  rfl
theorem blkF_none (D : DS) (t i a f p q : Nat) (s : List UInt8) (hf : f = half D - a - p) (h : a + p < half D) (hx : prtOk (content D (first D t + a + p)) = false) : blkF D t i a f p q s = none := by
  obtain ⟨f', rfl⟩ : ∃ f', f = f' + 1 := ⟨f - 1, by omega⟩
  unfold blkF prtOf
  rw [if_neg (by omega), hx]
  rfl
theorem blkF_bad (D : DS) (t i a f p q : Nat) (s : List UInt8) (hf : f = half D - a - p) (h : a + p < half D) (hx : prtOk (content D (first D t + a + p)) = true) {x : Prt} (hr : prtRead (content D (first D t + a + p)) = x) (hc : ¬ (x.turn = t ∧ x.index = i ∧ x.p = p ∧ (p = 0 ∨ x.q = q))) : blkF D t i a f p q s = none := by
  obtain ⟨f', rfl⟩ : ∃ f', f = f' + 1 := ⟨f - 1, by omega⟩
  unfold blkF prtOf
  rw [if_neg (by omega), if_pos hx, hr]
  show (if _ then _ else _) = _
  rw [if_neg hc]
theorem blkF_last (D : DS) (t i a f p q : Nat) (s : List UInt8) (hf : f = half D - a - p) (h : a + p < half D) (hx : prtOk (content D (first D t + a + p)) = true) {x : Prt} (hr : prtRead (content D (first D t + a + p)) = x) (hc : x.turn = t ∧ x.index = i ∧ x.p = p ∧ (p = 0 ∨ x.q = q)) (hl : p + 1 = x.q) : blkF D t i a f p q s = some (s ++ x.text, x.q) := by
  obtain ⟨f', rfl⟩ : ∃ f', f = f' + 1 := ⟨f - 1, by omega⟩
  unfold blkF prtOf
  rw [if_neg (by omega), if_pos hx, hr]
  show (if _ then _ else _) = _
  rw [if_pos hc, if_pos hl]
theorem blkF_next (D : DS) (t i a f p q : Nat) (s : List UInt8) (hf : f = half D - a - p) (h : a + p < half D) (hx : prtOk (content D (first D t + a + p)) = true) {x : Prt} (hr : prtRead (content D (first D t + a + p)) = x) (hc : x.turn = t ∧ x.index = i ∧ x.p = p ∧ (p = 0 ∨ x.q = q)) (hl : ¬ p + 1 = x.q) : blkF D t i a f p q s = blkF D t i a (half D - a - (p + 1)) (p + 1) x.q (s ++ x.text) := by
  obtain ⟨f', rfl⟩ : ∃ f', f = f' + 1 := ⟨f - 1, by omega⟩
  rw [show half D - a - (p + 1) = f' by omega]
  conv => lhs; unfold blkF prtOf
  rw [if_neg (by omega), if_pos hx, hr]
  show (if _ then _ else _) = _
  rw [if_pos hc, if_neg hl]
theorem half_le {D : DS} (hs : D.Sz) : half D ≤ 1000000 := by have := hs.hi; unfold half; omega
theorem first_le {D : DS} (hs : D.Sz) (t a : Nat) (h : a < half D) : first D t + a < D.pages.length := by
  have := hs.lo
  have h2 : t % 2 < 2 := Nat.mod_lt _ (by omega)
  unfold first
  have h3 : t % 2 * half D ≤ half D := by
    rcases (show t % 2 = 0 ∨ t % 2 = 1 by omega) with e | e <;> rw [e] <;> omega
  unfold half at *
  omega
/-- Between two rounds of block. -/
def BlR (w : World) (D : DS) (t i a : Nat) (v11 v12 v13 : Value) (W : World) : Prop :=
  ∃ (p q : Nat) (s : List UInt8), v12 = .int .i64 p ∧ v13 = .int .i64 q ∧ v11 = sv s ∧ p < q ∧ q ≤ 4096 ∧ s.length ≤ 96 * p ∧ blkF D t i a (half D - a - p) p q s = blk D t i a ∧ Below w.heap.size w W
set_option maxHeartbeats 8000000 in
theorem block_c (g d : Nat) (F : List Nat) (D : DS) (t i a : Nat) (ht : t ≤ 1099511629000) (hi : i ≤ 1099511627776) (ha : a ≤ 1000000) (w : World) (h : Hd w g d F D) (hs : D.Sz) (hf : D.failed = false) :
    Calls Tryz.prog 79 #[.pointer (some ⟨g, 0, none⟩), .int .i64 t, .int .i64 i, .int .i64 a] w (Gives w (blkV (blk D t i a))) := by
  have H := hide h
  have HS := hide hs
  have HF := hide hf
  have HT := hide ht
  have HI := hide hi
  have HA := hide ha
  have HB0 : Hid (blkF D t i a (half D - a - 0) 0 1 [] = blk D t i a) := hide rfl
  clear h hs hf ht hi ha
  obtain ⟨zt, hzt⟩ : ∃ z : Int, (t : Int) = z := ⟨_, rfl⟩
  obtain ⟨zi, hzi⟩ : ∃ z : Int, (i : Int) = z := ⟨_, rfl⟩
  obtain ⟨za, hza⟩ : ∃ z : Int, (a : Int) = z := ⟨_, rfl⟩
  have HZ := hide (And.intro hzt (And.intro hzi hza))
  have b0 : 0 ≤ za := by omega
  have b1 : za ≤ 1000000 := by have := HA.out; omega
  rw [hzt, hzi, hza]
  clear hzt hzi hza
  go_enter Tryz.func79, Tryz.ntmps79
  go_wp2_with fail
  go_loopw [11, 12, 13] (fun v11 v12 v13 wr => BlR w D t i a v11 v12 v13 wr) (fun _ v12 _ _ => 4096 - (intOf v12).toNat)
  case atStart => exact ⟨0, 1, [], rfl, rfl, rfl, by omega, by omega, by simp, HB0.out, Below.refl _ _⟩
  case round =>
    clear HB0
    obtain ⟨p, q, s, rfl, rfl, rfl, hpq, hq, hsl, hbl, hb⟩ := hrel
    have HSL := hide hsl
    clear hsl
    have HB := hide hb
    have HBL := hide hbl
    have HD := hide (H.out.step hb)
    have HPQ := hide (And.intro hpq hq)
    clear hb hbl
    obtain ⟨zp, hzp⟩ : ∃ z : Int, (p : Int) = z := ⟨_, rfl⟩
    obtain ⟨zq, hzq⟩ : ∃ z : Int, (q : Int) = z := ⟨_, rfl⟩
    have HP := hide (And.intro hzp hzq)
    have c0 : 0 ≤ zp := by omega
    have c1 : zp ≤ 4095 := by omega
    have c2 : zp < zq := by omega
    have c3 : zq ≤ 4096 := by omega
    rw [hzp, hzq]
    clear hzp hzq hpq hq
    obtain ⟨zh, hzh⟩ : ∃ z : Int, (half D : Int) = z := ⟨_, rfl⟩
    have HH := hide hzh
    have e0 : 0 ≤ zh := by omega
    have e1 : zh ≤ 1000000 := by have := half_le HS.out; omega
    clear hzh
    by_cases hh : zh ≤ za + zp
    · have HM : Hid (blk D t i a = none) := hide (by rw [← HBL.out]; exact blkF_out _ _ _ _ _ _ _ _ rfl (by have := HH.out; have := HZ.out; have := HP.out; omega))
      go_wp2_with fail
      refine (half_c g d F D wr HD.out HS.out).mono ?_
      rintro e w5 ⟨rfl, rfl⟩
      rw [HH.out]
      go_wp2_with fail
      go_ret3
      exact ⟨by rw [HM.out]; rfl, HB.out⟩
    · have hh2 : za + zp < zh := by omega
      have HLT : Hid (a + p < half D) := hide (by have := HH.out; have := HZ.out; have := HP.out; omega)
      clear hh
      go_wp2_with fail
      refine (half_c g d F D wr HD.out HS.out).mono ?_
      rintro e w5 ⟨rfl, rfl⟩
      rw [HH.out]
      go_wp2_with fail
      obtain ⟨zf, hzf⟩ : ∃ z : Int, (first D t : Int) = z := ⟨_, rfl⟩
      have HFL := hide (first_le HS.out t (a + p) HLT.out)
      have f0 : 0 ≤ zf := by omega
      have f1 : zf ≤ 1000000 := by have := HFL.out; have := HS.out.hi; omega
      have HFC : Hid (∀ X : World, Hd X g d F D → Calls Tryz.prog 81 #[.pointer (some ⟨g, 0, none⟩), .int .i64 zt] X fun e w' => e = .returned (.int .i64 zf) ∧ X = w') := hide (fun X hX => by rw [← HZ.out.1, ← hzf]; exact first_c g d F D t HT.out X hX HS.out)
      have HDR : Hid (dRead D (zf + za + zp) = (content D (first D t + a + p), 0)) := hide (by
        rw [← hzf, ← HZ.out.2.2, ← HP.out.1, show (first D t : Int) + a + p = ((first D t + a + p : Nat) : Int) by omega]
        exact dRead_ok HF.out _ (by have := HFL.out; omega))
      have HCL : Hid ((content D (first D t + a + p)).length = 128) := hide (content_ok HD.out.disk.ok _ (by have := HFL.out; omega))
      clear hzf
      have hw1 : IntKind.i64.wrap (zf + za) = zf + za := IntWalk.i64_in _ (by omega)
      have hw2 : IntKind.i64.wrap (zf + za + zp) = zf + za + zp := IntWalk.i64_in _ (by omega)
      refine wp_region_held_drew (S := fun W => W.cell? ⟨g, 0, none⟩ = some (.pointer (some ⟨d, 0, none⟩))) (by kernel_rfl) (HD.out.cell) (fun hS0 => ?_)
      replace HD := hide HD.out.drew
      replace HB := hide (HB.out.trans ((below_drew wr).mono HB.out.size))
      refine tk (i := 0) (v := _) rfl (by assumption) ?_
      try simp only [Act.put, qa, qb, qc, qd, qe, qf]
      refine tk (i := 1) (v := _) rfl (by assumption) ?_
      try simp only [Act.put, qa, qb, qc, qd, qe, qf]
      refine tk (i := 2) (v := _) rfl (by assumption) ?_
      try simp only [Act.put, qa, qb, qc, qd, qe, qf]
      refine tk (i := 3) (v := _) rfl (by assumption) ?_
      try simp only [Act.put, qa, qb, qc, qd, qe, qf]
      refine tk (i := 4) (v := _) rfl (by assumption) ?_
      try simp only [Act.put, qa, qb, qc, qd, qe, qf]
      refine tk (i := 5) (v := _) rfl (by assumption) ?_
      try simp only [Act.put, qa, qb, qc, qd, qe, qf]
      refine tk (i := 7) (v := _) rfl (by assumption) ?_
      try simp only [Act.put, qa, qb, qc, qd, qe, qf]
      refine tk (i := 9) (v := _) rfl (by assumption) ?_
      try simp only [Act.put, qa, qb, qc, qd, qe, qf]
      refine wpAnyH_ready (rs := [6]) (by kernel_rfl) (by simp) ?_
      refine AllReadyH.cons rfl (fun K hK => ?_) AllReadyH.nil
      go_simp
      refine (HFC.out _ HD.out).mono ?_
      rintro e w5 ⟨rfl, rfl⟩
      refine hK.out _ _ (HD.out.cell) (fun hS8 => ?_)
      clear hK K
      try simp only [Act.put, qa, qb, qc, qd, qe, qf]
      refine tk (i := 8) (v := _) rfl (by assumption) ?_
      try simp only [Act.put, qa, qb, qc, qd, qe, qf]
      refine tk (i := 10) (v := _) rfl (by assumption) ?_
      try simp only [Act.put, qa, qb, qc, qd, qe, qf]
      refine wpAnyH_ready (rs := [11]) (by kernel_rfl) (by simp) ?_
      refine AllReadyH.cons rfl (fun K hK => ?_) AllReadyH.nil
      go_simp
      refine (read_c d F D (zf + za + zp) _ HD.out.disk).mono ?_
      rintro e w6 ⟨v6, rfl, hb6, _, hbel⟩
      rw [HDR.out] at hb6 ⊢
      obtain ⟨A6, m6, c6, rfl, _, _, _⟩ := hb6.formN
      have H6 := hide hb6
      replace HD := hide (HD.out.step hbel)
      replace HB := hide (HB.out.trans (hbel.mono HB.out.size))
      clear hb6 hbel
      refine hK.out _ _ (HD.out.cell) (fun hS11 => ?_)
      clear hK K
      try simp only [Act.put, qa, qb, qc, qd, qe, qf]
      refine tk (i := 12) (v := _) rfl (by assumption) ?_
      try simp only [Act.put, qa, qb, qc, qd, qe, qf]
      refine tk (i := 13) (v := _) rfl (by assumption) ?_
      try simp only [Act.put, qa, qb, qc, qd, qe, qf]
      refine tk (i := 14) (v := _) rfl (by assumption) ?_
      try simp only [Act.put, qa, qb, qc, qd, qe, qf]
      refine tk (i := 15) (v := _) rfl (by assumption) ?_
      try simp only [Act.put, qa, qb, qc, qd, qe, qf]
      refine tk (i := 16) (v := _) rfl (by assumption) ?_
      try simp only [Act.put, qa, qb, qc, qd, qe, qf]
      refine wpAnyH_done (by kernel_rfl) ?_ _
      clear hw1 hw2
      go_wp2_with fail
      refine (partOf_c _ _ (by rw [HCL.out]; omega) _ H6.out).mono ?_
      rintro e w7 ⟨⟨yt, yi, yp, yq, ys⟩, rfl, hy, hb7⟩
      replace HD := hide (HD.out.step hb7)
      replace HB := hide (HB.out.trans (hb7.mono HB.out.size))
      have HY := hide hy
      clear hy hb7 H6
      unfold pv
      obtain ⟨n0, hn0⟩ : ∃ z : Int, (yt : Int) = z := ⟨_, rfl⟩
      obtain ⟨n1, hn1⟩ : ∃ z : Int, (yi : Int) = z := ⟨_, rfl⟩
      obtain ⟨n2, hn2⟩ : ∃ z : Int, (yp : Int) = z := ⟨_, rfl⟩
      obtain ⟨n3, hn3⟩ : ∃ z : Int, (yq : Int) = z := ⟨_, rfl⟩
      have HN := hide (And.intro hn0 (And.intro hn1 (And.intro hn2 hn3)))
      dsimp only
      rw [hn0, hn1, hn2, hn3]
      clear hn0 hn1 hn2 hn3
      have HO := hide (Own.nil w7 [] (by simp))
      cases hok : prtOk (content D (first D t + a + p)) with
      | false =>
        have HM : Hid (blk D t i a = none) := hide (by rw [← HBL.out]; exact blkF_none _ _ _ _ _ _ _ _ rfl HLT.out hok)
        clear hok HY
        go_wp2_with (first
          | ((with_reducible refine at_alloc 126 ?_); refine wpList_alloc_own HO.out rfl 126 rfl (zpartC) zpart_info ?_; intro WA b16 hO; replace HO := hide hO; clear hO)
          | ((with_reducible refine at_store 126 (.tmp 16) ?_); refine wpList_store_own HO.out rfl 126 (.tmp 16) (.tmp 50) rfl 0 _ 0 _ _ ([.int .i64 n0, .int .i64 n1, .int .i64 n2, .int .i64 n3, sv ys]) ([.int .i64 n0, .int .i64 n1, .int .i64 n2, .int .i64 n3, sv ys]) rfl (.agg ([.int .i64 n0, .int .i64 n1, .int .i64 n2, .int .i64 n3, sv ys]).toArray) rfl rfl (fits_agg _) (by simp [zpartC]) (splice_all rfl) zpart_size rfl ?_; intro WA hO; replace HO := hide hO; clear hO))
        go_ret3
        exact ⟨by rw [HM.out]; rfl, HB.out.trans (HO.out.below.mono HB.out.size)⟩
      | true =>
        have HOK := hide hok
        have HX : Hid (prtRead (content D (first D t + a + p)) = ⟨yt, yi, yp, yq, ys⟩) := hide (HY.out hok).symm
        have HFIT : Hid (yp < yq ∧ yq ≤ 4096 ∧ ys.length ≤ 96) := hide (by
          have := (Prt.fits _).1 ((prtOk_iff _).1 hok).1
          rw [HX.out] at this
          exact ⟨this.2.2.2.2.1, this.2.2.2.1, this.2.2.2.2.2⟩)
        have m3 : n3 ≤ 4096 := by have := HFIT.out; have := HN.out; omega
        have m4 : 1 ≤ n3 := by have := HFIT.out; have := HN.out; omega
        clear hok HY
        go_wp2_with (first
          | ((with_reducible refine at_alloc 126 ?_); refine wpList_alloc_own HO.out rfl 126 rfl (zpartC) zpart_info ?_; intro WA b16 hO; replace HO := hide hO; clear hO)
          | (((with_reducible refine at_store 126 (.tmp 16) ?_); refine wpList_store_own HO.out rfl 126 (.tmp 16) (.tmp 50) rfl 0 _ 0 _ _ ([.int .i64 n0, .int .i64 n1, .int .i64 n2, .int .i64 n3, sv ys]) ([.int .i64 n0, .int .i64 n1, .int .i64 n2, .int .i64 n3, sv ys]) rfl (.agg ([.int .i64 n0, .int .i64 n1, .int .i64 n2, .int .i64 n3, sv ys]).toArray) rfl rfl (fits_agg _) (by simp [zpartC]) (splice_all rfl) zpart_size rfl ?_; intro WA hO; replace HO := hide hO; clear hO; have k16 := HO.out.cells 0 rfl; refine Hid.out ?_)))
        refine hide ?_
        by_cases q1 : n0 = zt
        · by_cases q2 : n1 = zi
          · by_cases q3 : n2 = zp
            · by_cases q4 : zp = 0
              · have hcat := run_cat s ys (by have := HSL.out; have := HFIT.out.2.2; have := HP.out; omega)
                by_cases hl : zp = n3 - 1
                · have HM : Hid (blk D t i a = some (s ++ ys, yq)) := hide (by rw [← HBL.out]; exact blkF_last _ _ _ _ _ _ _ _ rfl HLT.out HOK.out HX.out (by have := HZ.out; have := HP.out; have := HN.out; have := HX.out; dsimp only; omega) (by have := HZ.out; have := HP.out; have := HN.out; have := HX.out; dsimp only; omega))
                  go_wp2_with fail
                  refine wp_region_held_drew (S := fun W => (∀ j, W.cell? ⟨b16, j, none⟩ = ([.int .i64 n0, .int .i64 n1, .int .i64 n2, .int .i64 n3, sv ys] : List Value)[j]?)) (by kernel_rfl) (HO.out.drew.cells 0 rfl) (fun hS0 => ?_)
                  replace HO := hide HO.out.drew
                  refine tk (i := 0) (v := _) rfl (by assumption) ?_
                  try simp only [Act.put, qa, qb, qc, qd, qe, qf]
                  refine tk (i := 1) (v := _) rfl (by assumption) ?_
                  try simp only [Act.put, qa, qb, qc, qd, qe, qf]
                  refine tk (i := 2) (v := _) rfl (by assumption) ?_
                  try simp only [Act.put, qa, qb, qc, qd, qe, qf]
                  refine tk (i := 3) (v := _) rfl (by assumption) ?_
                  try simp only [Act.put, qa, qb, qc, qd, qe, qf]
                  refine tk (i := 4) (v := _) rfl (by assumption) ?_
                  try simp only [Act.put, qa, qb, qc, qd, qe, qf]
                  refine tk (i := 5) (v := _) rfl (by assumption) ?_
                  try simp only [Act.put, qa, qb, qc, qd, qe, qf]
                  refine tk (i := 6) (v := _) rfl (by assumption) ?_
                  try simp only [Act.put, qa, qb, qc, qd, qe, qf]
                  refine tk (i := 7) (v := _) rfl (by assumption) ?_
                  try simp only [Act.put, qa, qb, qc, qd, qe, qf]
                  refine wpAnyH_done (by kernel_rfl) ?_ _
                  replace HB := hide (HB.out.trans (HO.out.below.mono HB.out.size))
                  go_wp2_with fail
                  go_ret3
                  have hv : blkV (some (s ++ ys, yq)) = .tuple #[sv (s ++ ys), .int .i64 n3, .int .i64 0] := by rw [← HN.out.2.2.2]; rfl
                  exact ⟨by rw [HM.out, hv]; first | rfl | (rw [q5]; rfl), HB.out⟩
                · have HM : Hid (blkF D t i a (half D - a - (p + 1)) (p + 1) yq (s ++ ys) = blk D t i a) := hide (by rw [← HBL.out]; exact (blkF_next _ _ _ _ _ _ _ _ rfl HLT.out HOK.out HX.out (by have := HZ.out; have := HP.out; have := HN.out; have := HX.out; dsimp only; omega) (by have := HZ.out; have := HP.out; have := HN.out; have := HX.out; dsimp only; omega)).symm)
                  go_wp2_with fail
                  refine wp_region_held_drew (S := fun W => (∀ j, W.cell? ⟨b16, j, none⟩ = ([.int .i64 n0, .int .i64 n1, .int .i64 n2, .int .i64 n3, sv ys] : List Value)[j]?)) (by kernel_rfl) (HO.out.drew.cells 0 rfl) (fun hS0 => ?_)
                  replace HO := hide HO.out.drew
                  refine tk (i := 0) (v := _) rfl (by assumption) ?_
                  try simp only [Act.put, qa, qb, qc, qd, qe, qf]
                  refine tk (i := 1) (v := _) rfl (by assumption) ?_
                  try simp only [Act.put, qa, qb, qc, qd, qe, qf]
                  refine tk (i := 2) (v := _) rfl (by assumption) ?_
                  try simp only [Act.put, qa, qb, qc, qd, qe, qf]
                  refine tk (i := 3) (v := _) rfl (by assumption) ?_
                  try simp only [Act.put, qa, qb, qc, qd, qe, qf]
                  refine tk (i := 4) (v := _) rfl (by assumption) ?_
                  try simp only [Act.put, qa, qb, qc, qd, qe, qf]
                  refine tk (i := 5) (v := _) rfl (by assumption) ?_
                  try simp only [Act.put, qa, qb, qc, qd, qe, qf]
                  refine tk (i := 6) (v := _) rfl (by assumption) ?_
                  try simp only [Act.put, qa, qb, qc, qd, qe, qf]
                  refine tk (i := 7) (v := _) rfl (by assumption) ?_
                  try simp only [Act.put, qa, qb, qc, qd, qe, qf]
                  refine wpAnyH_done (by kernel_rfl) ?_ _
                  replace HB := hide (HB.out.trans (HO.out.below.mono HB.out.size))
                  go_wp2_with fail
                  go_roundw
                  case rel => exact ⟨p + 1, yq, s ++ ys, by have := HP.out; congr 1; omega, by rw [HN.out.2.2.2]; first | done | (rw [q5]), rfl, by have := HFIT.out; have := HZ.out; have := HP.out; have := HN.out; have := HX.out; omega, by have := HFIT.out; omega, by have := HSL.out; have := HFIT.out.2.2; simp; omega, HM.out, HB.out⟩
                  case measure => simp [intOf]; have := HP.out; omega
              · by_cases q5 : n3 = zq
                · have hcat := run_cat s ys (by have := HSL.out; have := HFIT.out.2.2; have := HP.out; omega)
                  by_cases hl : zp = n3 - 1
                  · have HM : Hid (blk D t i a = some (s ++ ys, yq)) := hide (by rw [← HBL.out]; exact blkF_last _ _ _ _ _ _ _ _ rfl HLT.out HOK.out HX.out (by have := HZ.out; have := HP.out; have := HN.out; have := HX.out; dsimp only; omega) (by have := HZ.out; have := HP.out; have := HN.out; have := HX.out; dsimp only; omega))
                    go_wp2_with fail
                    refine wp_region_held_drew (S := fun W => (∀ j, W.cell? ⟨b16, j, none⟩ = ([.int .i64 n0, .int .i64 n1, .int .i64 n2, .int .i64 n3, sv ys] : List Value)[j]?)) (by kernel_rfl) (HO.out.drew.cells 0 rfl) (fun hS0 => ?_)
                    replace HO := hide HO.out.drew
                    refine tk (i := 0) (v := _) rfl (by assumption) ?_
                    try simp only [Act.put, qa, qb, qc, qd, qe, qf]
                    refine tk (i := 1) (v := _) rfl (by assumption) ?_
                    try simp only [Act.put, qa, qb, qc, qd, qe, qf]
                    refine tk (i := 2) (v := _) rfl (by assumption) ?_
                    try simp only [Act.put, qa, qb, qc, qd, qe, qf]
                    refine tk (i := 3) (v := _) rfl (by assumption) ?_
                    try simp only [Act.put, qa, qb, qc, qd, qe, qf]
                    refine tk (i := 4) (v := _) rfl (by assumption) ?_
                    try simp only [Act.put, qa, qb, qc, qd, qe, qf]
                    refine tk (i := 5) (v := _) rfl (by assumption) ?_
                    try simp only [Act.put, qa, qb, qc, qd, qe, qf]
                    refine tk (i := 6) (v := _) rfl (by assumption) ?_
                    try simp only [Act.put, qa, qb, qc, qd, qe, qf]
                    refine tk (i := 7) (v := _) rfl (by assumption) ?_
                    try simp only [Act.put, qa, qb, qc, qd, qe, qf]
                    refine wpAnyH_done (by kernel_rfl) ?_ _
                    replace HB := hide (HB.out.trans (HO.out.below.mono HB.out.size))
                    go_wp2_with fail
                    go_ret3
                    have hv : blkV (some (s ++ ys, yq)) = .tuple #[sv (s ++ ys), .int .i64 n3, .int .i64 0] := by rw [← HN.out.2.2.2]; rfl
                    exact ⟨by rw [HM.out, hv]; first | rfl | (rw [q5]; rfl), HB.out⟩
                  · have HM : Hid (blkF D t i a (half D - a - (p + 1)) (p + 1) yq (s ++ ys) = blk D t i a) := hide (by rw [← HBL.out]; exact (blkF_next _ _ _ _ _ _ _ _ rfl HLT.out HOK.out HX.out (by have := HZ.out; have := HP.out; have := HN.out; have := HX.out; dsimp only; omega) (by have := HZ.out; have := HP.out; have := HN.out; have := HX.out; dsimp only; omega)).symm)
                    go_wp2_with fail
                    refine wp_region_held_drew (S := fun W => (∀ j, W.cell? ⟨b16, j, none⟩ = ([.int .i64 n0, .int .i64 n1, .int .i64 n2, .int .i64 n3, sv ys] : List Value)[j]?)) (by kernel_rfl) (HO.out.drew.cells 0 rfl) (fun hS0 => ?_)
                    replace HO := hide HO.out.drew
                    refine tk (i := 0) (v := _) rfl (by assumption) ?_
                    try simp only [Act.put, qa, qb, qc, qd, qe, qf]
                    refine tk (i := 1) (v := _) rfl (by assumption) ?_
                    try simp only [Act.put, qa, qb, qc, qd, qe, qf]
                    refine tk (i := 2) (v := _) rfl (by assumption) ?_
                    try simp only [Act.put, qa, qb, qc, qd, qe, qf]
                    refine tk (i := 3) (v := _) rfl (by assumption) ?_
                    try simp only [Act.put, qa, qb, qc, qd, qe, qf]
                    refine tk (i := 4) (v := _) rfl (by assumption) ?_
                    try simp only [Act.put, qa, qb, qc, qd, qe, qf]
                    refine tk (i := 5) (v := _) rfl (by assumption) ?_
                    try simp only [Act.put, qa, qb, qc, qd, qe, qf]
                    refine tk (i := 6) (v := _) rfl (by assumption) ?_
                    try simp only [Act.put, qa, qb, qc, qd, qe, qf]
                    refine tk (i := 7) (v := _) rfl (by assumption) ?_
                    try simp only [Act.put, qa, qb, qc, qd, qe, qf]
                    refine wpAnyH_done (by kernel_rfl) ?_ _
                    replace HB := hide (HB.out.trans (HO.out.below.mono HB.out.size))
                    go_wp2_with fail
                    go_roundw
                    case rel => exact ⟨p + 1, yq, s ++ ys, by have := HP.out; congr 1; omega, by rw [HN.out.2.2.2]; first | done | (rw [q5]), rfl, by have := HFIT.out; have := HZ.out; have := HP.out; have := HN.out; have := HX.out; omega, by have := HFIT.out; omega, by have := HSL.out; have := HFIT.out.2.2; simp; omega, HM.out, HB.out⟩
                    case measure => simp [intOf]; have := HP.out; omega
                · have HM : Hid (blk D t i a = none) := hide (by rw [← HBL.out]; exact blkF_bad _ _ _ _ _ _ _ _ rfl HLT.out HOK.out HX.out (by have := HZ.out; have := HP.out; have := HN.out; have := HX.out; dsimp only; omega))
                  go_wp2_with fail
                  go_ret3
                  exact ⟨by rw [HM.out]; rfl, HB.out.trans (HO.out.below.mono HB.out.size)⟩
            · have HM : Hid (blk D t i a = none) := hide (by rw [← HBL.out]; exact blkF_bad _ _ _ _ _ _ _ _ rfl HLT.out HOK.out HX.out (by have := HZ.out; have := HP.out; have := HN.out; have := HX.out; dsimp only; omega))
              go_wp2_with fail
              go_ret3
              exact ⟨by rw [HM.out]; rfl, HB.out.trans (HO.out.below.mono HB.out.size)⟩
          · have HM : Hid (blk D t i a = none) := hide (by rw [← HBL.out]; exact blkF_bad _ _ _ _ _ _ _ _ rfl HLT.out HOK.out HX.out (by have := HZ.out; have := HP.out; have := HN.out; have := HX.out; dsimp only; omega))
            go_wp2_with fail
            go_ret3
            exact ⟨by rw [HM.out]; rfl, HB.out.trans (HO.out.below.mono HB.out.size)⟩
        · have HM : Hid (blk D t i a = none) := hide (by rw [← HBL.out]; exact blkF_bad _ _ _ _ _ _ _ _ rfl HLT.out HOK.out HX.out (by have := HZ.out; have := HP.out; have := HN.out; have := HX.out; dsimp only; omega))
          go_wp2_with fail
          go_ret3
          exact ⟨by rw [HM.out]; rfl, HB.out.trans (HO.out.below.mono HB.out.size)⟩
end Go.Proofs.YtpadgkkeihhneaaGreat
