/- The law's Same and bytes. -/
import Derived.Test.YtpadgkkeihhneaaGreatK44
namespace Go.Proofs.YtpadgkkeihhneaaGreat
open List renaming getElem_toArray → qa, getElem_cons_zero → qb, getElem_cons_succ → qc, setIfInBounds_toArray → qd, set_cons_zero → qe, set_cons_succ → qf
set_option maxRecDepth 100000
set_option linter.unusedSimpArgs false
set_option linter.unusedVariables false
open Go.ChangeShapes Go.WideShapes Go.ChangeAt Go.RowKit
set_option linter.unusedVariables false
set_option linter.unusedSimpArgs false

theorem Zs.jr {g d : Nat} {E : DS} {K : JS} {w0 W0 W : World} {X M : List Nat} {v : Value} {D : DS} {J : JS} (h : Zs (fun W G => Jn W g d G E K) w0 W0 X M W v D J) : ∃ F q, Jr W g d F E K q := by
  obtain ⟨G, ⟨F, q, h1, _⟩, _⟩ := h
  exact ⟨F, q, h1⟩
theorem Zs.recs {P : World → List Nat → Prop} {w0 W0 W : World} {X M : List Nat} {D : DS} {J : JS} {A : Option Addr} {n c : Nat} {B : Option Addr} {m b : Nat} {fz : Int} {fl : Bool} {t : Int} {s : Value} {q : Value} {u : Int} {br : Bool} (h : Zs P w0 W0 X M W (.agg (rjc A n c B m b fz fl t s q u br).toArray) D J) :
    Rs W 0 q J.records ∧ (n = D.pages.length ∧ m = D.pend.length ∧ fz = D.fuse ∧ fl = D.failed) ∧ t = (J.turn : Int) ∧ s = sv J.state ∧ u = (J.used : Int) ∧ br = J.broken := by
  obtain ⟨G, h1, h2, h3, h4, h5, h6, h7⟩ := h
  have hrf := h3.rf
  obtain ⟨A0, n0, c0, B0, m0, b0, rw_, hv, _, hrs, hap⟩ := h3
  have hv2 := congrArg (fun x : Value => match x with | .agg a => a.toList | _ => []) hv
  simp only [rjc, List.cons.injEq, Value.slice.injEq, Value.int.injEq, Value.bool.injEq, true_and, and_true] at hv2
  obtain ⟨⟨rfl, rfl, rfl⟩, ⟨rfl, rfl, rfl⟩, rfl, rfl, rfl, rfl, rfl, rfl, rfl⟩ := hv2
  refine ⟨hrs, ⟨?_, ?_, rfl, rfl⟩, rfl, rfl, rfl, rfl⟩
  · obtain ⟨dv, pv, vs, xs, he, hk⟩ := hrf
    unfold rv at he
    injection he with he
    have h1 := congrArg (fun a : Array Value => a[0]?) he
    simp at h1
    subst h1
    have := hk.dur.2
    rcases this with ⟨e, h0⟩ | ⟨g, cap, cur, e, _⟩ <;> (injection e with e1 e2 e3; try omega)
  · obtain ⟨dv, pv, vs, xs, he, hk⟩ := hrf
    unfold rv at he
    injection he with he
    have h1 := congrArg (fun a : Array Value => a[1]?) he
    simp at h1
    subst h1
    have := hk.pend.2
    rcases this with ⟨e, h0⟩ | ⟨g, cap, cur, e, _⟩ <;> (injection e with e1 e2 e3; try omega)
set_option maxHeartbeats 16000000 in
theorem wsame_c (w0 W0 : World) (X : List Nat) (x d g : Nat) (D : DS) (J : JS) (W : World) (h : Ww w0 W0 X x d g W D J) (hs : Sound D) (hj : JOk D J) : Calls Tryz.prog 20 #[.pointer (some ⟨x, 0, none⟩)] W fun e W' => e = .returned (.bool true) ∧ Ww w0 W0 X x d g W' D J := by
  obtain ⟨A, n, c, B, m, bb, Ar, nr, cr, hO, hZ⟩ := h
  obtain ⟨hrs, ⟨hn, hm, hfz, hfl⟩, ht, hst, hu, hbr⟩ := hZ.recs
  unfold wcs rjc at hO
  unfold rjc at hZ
  obtain ⟨fz, hz1⟩ : ∃ z, D.fuse = z := ⟨_, rfl⟩
  obtain ⟨fl, hz2⟩ : ∃ z, D.failed = z := ⟨_, rfl⟩
  obtain ⟨zt, hz3⟩ : ∃ z : Int, (J.turn : Int) = z := ⟨_, rfl⟩
  obtain ⟨sS, hz4⟩ : ∃ S : ByteArray, sv J.state = .string S := ⟨_, rfl⟩
  obtain ⟨zu, hz5⟩ : ∃ z : Int, (J.used : Int) = z := ⟨_, rfl⟩
  obtain ⟨br, hz6⟩ : ∃ z, J.broken = z := ⟨_, rfl⟩
  rw [hz1, hz2, hz3, hz4, hz5, hz6] at hO hZ
  have HA := hide (And.intro hz3 (And.intro hz4 hz6))
  have HO := hide hO
  have HZ := hide hZ
  have HS := hide hs
  have HJ := hide hj
  obtain ⟨_, _, _, hrv, hnr, _, _⟩ := hrs.formN
  have HNR : Hid (nr = J.records.length) := by injection hrv with e1 e2 e3; rw [e2]; exact hnr
  have HLE := hj.recs
  have HLEN := hide HLE
  clear hO hZ hs hj hrs hn hm hfz hfl ht hst hu hbr hz1 hz2 hz3 hz4 hz5 hz6 hrv hnr HLE
  go_enter Tryz.func20, Tryz.ntmps20
  have kx := HO.out.cells 0 rfl
  go_wp2_with fail
  obtain ⟨Fj, qj, hjr⟩ := HZ.out.jr
  refine (records_c g d Fj D J qj _ hjr (by have := HLEN.out; omega)).mono ?_
  rintro e w3 ⟨v3, rfl, hsl, _, hb3⟩
  obtain ⟨Al, ml, cl, rfl, hml, _, _⟩ := hsl.formN
  have HML : Hid (ml = J.records.length) := hml
  have HL := hide hsl
  replace HO := hide (HO.out.step hb3)
  replace HZ := hide (HZ.out.step (keeps_jn g d D J) hb3)
  clear hjr hsl hml hb3 kx
  have hd1 : ((ml : Int) != (nr : Int)) = false := by simp; have := HML.out; have := HNR.out; omega
  have ml9 : ml ≤ 500000 := by have := HML.out; have := HLEN.out; omega
  have kx := HO.out.cells 0 rfl
  go_wp2_with fail
  refine wp_region_held_drew (S := fun W => (∀ j, W.cell? ⟨x, j, none⟩ = ([.pointer (some ⟨d, 0, none⟩), .pointer (some ⟨g, 0, none⟩), .slice A n c, .slice B m bb, .int .i64 fz, .bool fl, .int .i64 zt, .string sS, .slice Ar nr cr, .int .i64 zu, .bool br] : List Value)[j]?) ∧ True) (by kernel_rfl) (⟨HO.out.drew.cells 0 rfl, trivial⟩) (fun hS0 => ?_)
  replace HO := hide HO.out.drew
  replace HZ := hide (HZ.out.step (keeps_jn g d D J) (below_drew _))
  replace HL := hide (HL.out.step (below_drew _))
  refine tk (i := 0) (v := _) rfl (by assumption) ?_
  try simp only [Act.put, qa, qb, qc, qd, qe, qf]
  refine tk (i := 1) (v := _) rfl (by assumption) ?_
  try simp only [Act.put, qa, qb, qc, qd, qe, qf]
  refine tk (i := 2) (v := _) rfl (by assumption) ?_
  try simp only [Act.put, qa, qb, qc, qd, qe, qf]
  refine tk (i := 3) (v := _) rfl (by assumption) ?_
  try simp only [Act.put, qa, qb, qc, qd, qe, qf]
  refine tk (i := 5) (v := _) rfl (by assumption) ?_
  try simp only [Act.put, qa, qb, qc, qd, qe, qf]
  refine tk (i := 6) (v := _) rfl (by assumption) ?_
  try simp only [Act.put, qa, qb, qc, qd, qe, qf]
  refine tk (i := 7) (v := _) rfl (by assumption) ?_
  try simp only [Act.put, qa, qb, qc, qd, qe, qf]
  refine tk (i := 8) (v := _) rfl (by assumption) ?_
  try simp only [Act.put, qa, qb, qc, qd, qe, qf]
  refine tk (i := 9) (v := _) rfl (by assumption) ?_
  try simp only [Act.put, qa, qb, qc, qd, qe, qf]
  refine wpAnyH_ready (rs := [4]) (by kernel_rfl) (by simp) ?_
  refine AllReadyH.cons rfl (fun K hK => ?_) AllReadyH.nil
  go_simp
  obtain ⟨Fj, qj, hjr⟩ := HZ.out.jr
  refine (turn_c g d Fj D J qj _ hjr).mono ?_
  rintro e wq ⟨rfl, rfl⟩
  clear hjr
  rw [HA.out.1]
  refine hK.out _ _ (⟨HO.out.cells 0 rfl, trivial⟩) (fun hS9 => ?_)
  clear hK K
  try simp only [Act.put, qa, qb, qc, qd, qe, qf]
  refine tk (i := 10) (v := _) rfl (by assumption) ?_
  try simp only [Act.put, qa, qb, qc, qd, qe, qf]
  refine tk (i := 11) (v := _) rfl (by assumption) ?_
  try simp only [Act.put, qa, qb, qc, qd, qe, qf]
  refine tk (i := 12) (v := _) rfl (by assumption) ?_
  try simp only [Act.put, qa, qb, qc, qd, qe, qf]
  refine tk (i := 13) (v := _) rfl (by assumption) ?_
  try simp only [Act.put, qa, qb, qc, qd, qe, qf]
  refine tk (i := 14) (v := _) rfl (by assumption) ?_
  try simp only [Act.put, qa, qb, qc, qd, qe, qf]
  refine tk (i := 15) (v := _) rfl (by assumption) ?_
  try simp only [Act.put, qa, qb, qc, qd, qe, qf]
  refine tk (i := 17) (v := _) rfl (by assumption) ?_
  try simp only [Act.put, qa, qb, qc, qd, qe, qf]
  refine tk (i := 18) (v := _) rfl (by assumption) ?_
  try simp only [Act.put, qa, qb, qc, qd, qe, qf]
  refine tk (i := 19) (v := _) rfl (by assumption) ?_
  try simp only [Act.put, qa, qb, qc, qd, qe, qf]
  refine tk (i := 20) (v := _) rfl (by assumption) ?_
  try simp only [Act.put, qa, qb, qc, qd, qe, qf]
  refine tk (i := 21) (v := _) rfl (by assumption) ?_
  try simp only [Act.put, qa, qb, qc, qd, qe, qf]
  refine wpAnyH_ready (rs := [16]) (by kernel_rfl) (by simp) ?_
  refine AllReadyH.cons rfl (fun K hK => ?_) AllReadyH.nil
  go_simp
  obtain ⟨Fj, qj, hjr⟩ := HZ.out.jr
  refine (state_c g d Fj D J qj _ hjr).mono ?_
  rintro e wq ⟨rfl, rfl⟩
  clear hjr
  rw [HA.out.2.1]
  refine hK.out _ _ (⟨HO.out.cells 0 rfl, trivial⟩) (fun hS21 => ?_)
  clear hK K
  try simp only [Act.put, qa, qb, qc, qd, qe, qf]
  refine tk (i := 22) (v := _) rfl (by assumption) ?_
  try simp only [Act.put, qa, qb, qc, qd, qe, qf]
  refine tk (i := 23) (v := _) rfl (by assumption) ?_
  try simp only [Act.put, qa, qb, qc, qd, qe, qf]
  refine tk (i := 24) (v := _) rfl (by assumption) ?_
  try simp only [Act.put, qa, qb, qc, qd, qe, qf]
  refine tk (i := 25) (v := _) rfl (by assumption) ?_
  try simp only [Act.put, qa, qb, qc, qd, qe, qf]
  refine tk (i := 26) (v := _) rfl (by assumption) ?_
  try simp only [Act.put, qa, qb, qc, qd, qe, qf]
  refine tk (i := 27) (v := _) rfl (by assumption) ?_
  try simp only [Act.put, qa, qb, qc, qd, qe, qf]
  refine tk (i := 28) (v := _) rfl (by assumption) ?_
  try simp only [Act.put, qa, qb, qc, qd, qe, qf]
  refine tk (i := 29) (v := _) rfl (by assumption) ?_
  try simp only [Act.put, qa, qb, qc, qd, qe, qf]
  refine tk (i := 30) (v := _) rfl (by assumption) ?_
  try simp only [Act.put, qa, qb, qc, qd, qe, qf]
  refine tk (i := 31) (v := _) rfl (by assumption) ?_
  try simp only [Act.put, qa, qb, qc, qd, qe, qf]
  refine tk (i := 32) (v := _) rfl (by assumption) ?_
  try simp only [Act.put, qa, qb, qc, qd, qe, qf]
  refine tk (i := 33) (v := _) rfl (by assumption) ?_
  try simp only [Act.put, qa, qb, qc, qd, qe, qf]
  refine tk (i := 34) (v := _) rfl (by assumption) ?_
  try simp only [Act.put, qa, qb, qc, qd, qe, qf]
  refine tk (i := 35) (v := _) rfl (by assumption) ?_
  try simp only [Act.put, qa, qb, qc, qd, qe, qf]
  refine tk (i := 36) (v := _) rfl (by assumption) ?_
  try simp only [Act.put, qa, qb, qc, qd, qe, qf]
  refine tk (i := 37) (v := _) rfl (by assumption) ?_
  try simp only [Act.put, qa, qb, qc, qd, qe, qf]
  refine tk (i := 38) (v := _) rfl (by assumption) ?_
  try simp only [Act.put, qa, qb, qc, qd, qe, qf]
  refine tk (i := 39) (v := _) rfl (by assumption) ?_
  try simp only [Act.put, qa, qb, qc, qd, qe, qf]
  refine tk (i := 41) (v := _) rfl (by assumption) ?_
  try simp only [Act.put, qa, qb, qc, qd, qe, qf]
  refine tk (i := 42) (v := _) rfl (by assumption) ?_
  try simp only [Act.put, qa, qb, qc, qd, qe, qf]
  refine tk (i := 43) (v := _) rfl (by assumption) ?_
  try simp only [Act.put, qa, qb, qc, qd, qe, qf]
  refine tk (i := 44) (v := _) rfl (by assumption) ?_
  try simp only [Act.put, qa, qb, qc, qd, qe, qf]
  refine wpAnyH_ready (rs := [40]) (by kernel_rfl) (by simp) ?_
  refine AllReadyH.cons rfl (fun K hK => ?_) AllReadyH.nil
  go_simp
  obtain ⟨Fj, qj, hjr⟩ := HZ.out.jr
  refine (free_c g d Fj D J qj _ hjr HS.out.sz HJ.out).mono ?_
  rintro e wq ⟨rfl, hbq⟩
  clear hjr
  replace HO := hide (HO.out.step hbq)
  replace HZ := hide (HZ.out.step (keeps_jn g d D J) hbq)
  replace HL := hide (HL.out.step hbq)
  clear hbq
  refine hK.out _ _ (⟨HO.out.cells 0 rfl, trivial⟩) (fun hS44 => ?_)
  clear hK K
  try simp only [Act.put, qa, qb, qc, qd, qe, qf]
  refine wpAnyH_ready (rs := [45]) (by kernel_rfl) (by simp) ?_
  refine AllReadyH.cons rfl (fun K hK => ?_) AllReadyH.nil
  go_simp
  refine (Zs.look (keeps_jn g d D J) HZ.out (fun F hr => rfree_c F _ D J _ hr HS.out.sz HJ.out) (fun e w' h => h.2)).mono ?_
  rintro e w5 ⟨⟨rfl, hb5⟩, hz⟩
  replace HO := hide (HO.out.step hb5)
  replace HZ := hide hz
  replace HL := hide (HL.out.step hb5)
  clear hb5 hz
  refine hK.out _ _ (⟨HO.out.cells 0 rfl, trivial⟩) (fun hS45 => ?_)
  clear hK K
  try simp only [Act.put, qa, qb, qc, qd, qe, qf]
  refine tk (i := 46) (v := _) rfl (by assumption) ?_
  try simp only [Act.put, qa, qb, qc, qd, qe, qf]
  refine tk (i := 47) (v := _) rfl (by assumption) ?_
  try simp only [Act.put, qa, qb, qc, qd, qe, qf]
  refine tk (i := 48) (v := _) rfl (by assumption) ?_
  try simp only [Act.put, qa, qb, qc, qd, qe, qf]
  refine tk (i := 49) (v := _) rfl (by assumption) ?_
  try simp only [Act.put, qa, qb, qc, qd, qe, qf]
  refine tk (i := 50) (v := _) rfl (by assumption) ?_
  try simp only [Act.put, qa, qb, qc, qd, qe, qf]
  refine tk (i := 51) (v := _) rfl (by assumption) ?_
  try simp only [Act.put, qa, qb, qc, qd, qe, qf]
  refine tk (i := 52) (v := _) rfl (by assumption) ?_
  try simp only [Act.put, qa, qb, qc, qd, qe, qf]
  refine tk (i := 54) (v := _) rfl (by assumption) ?_
  try simp only [Act.put, qa, qb, qc, qd, qe, qf]
  refine tk (i := 55) (v := _) rfl (by assumption) ?_
  try simp only [Act.put, qa, qb, qc, qd, qe, qf]
  refine tk (i := 56) (v := _) rfl (by assumption) ?_
  try simp only [Act.put, qa, qb, qc, qd, qe, qf]
  refine tk (i := 57) (v := _) rfl (by assumption) ?_
  try simp only [Act.put, qa, qb, qc, qd, qe, qf]
  refine tk (i := 58) (v := _) rfl (by assumption) ?_
  try simp only [Act.put, qa, qb, qc, qd, qe, qf]
  refine wpAnyH_ready (rs := [53]) (by kernel_rfl) (by simp) ?_
  refine AllReadyH.cons rfl (fun K hK => ?_) AllReadyH.nil
  go_simp
  obtain ⟨Fj, qj, hjr⟩ := HZ.out.jr
  refine (broken_c g d Fj D J qj _ hjr).mono ?_
  rintro e wq ⟨rfl, rfl⟩
  clear hjr
  rw [HA.out.2.2]
  refine hK.out _ _ (⟨HO.out.cells 0 rfl, trivial⟩) (fun hS58 => ?_)
  clear hK K
  try simp only [Act.put, qa, qb, qc, qd, qe, qf]
  refine tk (i := 59) (v := _) rfl (by assumption) ?_
  try simp only [Act.put, qa, qb, qc, qd, qe, qf]
  refine tk (i := 60) (v := _) rfl (by assumption) ?_
  try simp only [Act.put, qa, qb, qc, qd, qe, qf]
  refine wpAnyH_done (by kernel_rfl) ?_ _
  clear hS0 kx
  go_wp2_with fail
  go_loopw [73] (fun v73 wr => ∃ k : Nat, v73 = .int .i64 k ∧ k ≤ ml ∧ Own w0 [] [(x, 55, [.pointer (some ⟨d, 0, none⟩), .pointer (some ⟨g, 0, none⟩), .slice A n c, .slice B m bb, .int .i64 fz, .bool fl, .int .i64 zt, .string sS, .slice Ar nr cr, .int .i64 zu, .bool br])] wr ∧ Zs (fun W G => Jn W g d G D J) w0 W0 X [x] wr (.agg ([.slice A n c, .slice B m bb, .int .i64 fz, .bool fl, .int .i64 zt, .string sS, .slice Ar nr cr, .int .i64 zu, .bool br] : List Value).toArray) D J ∧ Sl wr (.slice Al ml cl) J.records) (fun v73 _ => ml - (intOf v73).toNat)
  case atStart => exact ⟨0, rfl, Nat.zero_le _, HO.out, HZ.out, HL.out⟩
  case round =>
    clear HO HZ HL hd1
    obtain ⟨k, rfl, hk, hO, hZ, hL⟩ := hrel
    have HO := hide hO
    have HZ := hide hZ
    have HL := hide hL
    by_cases hlt : k < ml
    · have hkr : k < nr := by have := HML.out; have := HNR.out; omega
      obtain ⟨gl, ol, rfl, _, hcl⟩ := hL.at_ k (by rw [← HML.out]; exact hlt)
      obtain ⟨gr, or_, rfl, _, hcr⟩ := hZ.recs.1.sl.at_ k (by rw [← HML.out]; exact hlt)
      obtain ⟨Y, hy⟩ : ∃ Y : ByteArray, sv (J.records.getD k []) = .string Y := ⟨_, rfl⟩
      rw [hy] at hcl hcr
      clear hO hZ hL hy
      go_wp2_with fail
      refine wp_region_held_drew (S := fun W => (∀ j, W.cell? ⟨x, j, none⟩ = ([.pointer (some ⟨d, 0, none⟩), .pointer (some ⟨g, 0, none⟩), .slice A n c, .slice B m bb, .int .i64 fz, .bool fl, .int .i64 zt, .string sS, .slice (some ⟨gr, or_, none⟩) nr cr, .int .i64 zu, .bool br] : List Value)[j]?) ∧ W.cell? ⟨gl, ol + k, none⟩ = some (.string Y) ∧ W.cell? ⟨gr, or_ + k, none⟩ = some (.string Y)) (by kernel_rfl) (⟨HO.out.drew.cells 0 rfl, hcl, hcr⟩) (fun hS0 => ?_)
      refine tk (i := 0) (v := _) rfl (by assumption) ?_
      try simp only [Act.put, qa, qb, qc, qd, qe, qf]
      refine tk (i := 1) (v := _) rfl (by assumption) ?_
      try simp only [Act.put, qa, qb, qc, qd, qe, qf]
      refine tk (i := 2) (v := _) rfl (by assumption) ?_
      try simp only [Act.put, qa, qb, qc, qd, qe, qf]
      refine tk (i := 3) (v := _) rfl (by assumption) ?_
      try simp only [Act.put, qa, qb, qc, qd, qe, qf]
      refine tk (i := 4) (v := _) rfl (by assumption) ?_
      try simp only [Act.put, qa, qb, qc, qd, qe, qf]
      refine tk (i := 5) (v := _) rfl (by assumption) ?_
      try simp only [Act.put, qa, qb, qc, qd, qe, qf]
      refine tk (i := 6) (v := _) rfl (by assumption) ?_
      try simp only [Act.put, qa, qb, qc, qd, qe, qf]
      refine tk (i := 7) (v := _) rfl (by assumption) ?_
      try simp only [Act.put, qa, qb, qc, qd, qe, qf]
      refine tk (i := 8) (v := _) rfl (by assumption) ?_
      try simp only [Act.put, qa, qb, qc, qd, qe, qf]
      refine tk (i := 9) (v := _) rfl (by assumption) ?_
      try simp only [Act.put, qa, qb, qc, qd, qe, qf]
      refine tk (i := 10) (v := _) rfl (by assumption) ?_
      try simp only [Act.put, qa, qb, qc, qd, qe, qf]
      refine tk (i := 11) (v := _) rfl (by assumption) ?_
      try simp only [Act.put, qa, qb, qc, qd, qe, qf]
      refine tk (i := 12) (v := _) rfl (by assumption) ?_
      try simp only [Act.put, qa, qb, qc, qd, qe, qf]
      refine wpAnyH_done (by kernel_rfl) ?_ _
      clear hS0
      replace HO := hide HO.out.drew
      replace HZ := hide (HZ.out.step (keeps_jn g d D J) (below_drew _))
      replace HL := hide (HL.out.step (below_drew _))
      go_wp2_with fail
      go_roundw
      case rel => exact ⟨k + 1, by go_num, by omega, HO.out, HZ.out, HL.out⟩
      case measure => (simp [intOf]; omega)
    · obtain rfl : k = ml := by omega
      go_wp2_with fail
      go_ret
      exact ⟨rfl, Ww.of HO.out HZ.out⟩
theorem Zs.pages {P : World → List Nat → Prop} {w0 W0 W : World} {X M : List Nat} {v : Value} {D : DS} {J : JS} {d : Nat} {E : DS} (hd : ∀ W G, P W G → ∃ F, Disk W d F E) (h : Zs P w0 W0 X M W v D J) : Calls Tryz.prog 33 #[.pointer (some ⟨d, 0, none⟩)] W fun e w' => e = .returned (.int .i64 E.pages.length) ∧ W = w' := by
  obtain ⟨G, h1, _⟩ := h
  obtain ⟨F, hF⟩ := hd W G h1
  exact pages_c d F E W hF
theorem Zs.pending {P : World → List Nat → Prop} {w0 W0 W : World} {X M : List Nat} {v : Value} {D : DS} {J : JS} {d : Nat} {E : DS} (hd : ∀ W G, P W G → ∃ F, Disk W d F E) (h : Zs P w0 W0 X M W v D J) : Calls Tryz.prog 60 #[.pointer (some ⟨d, 0, none⟩)] W fun e w' => e = .returned (.int .i64 E.pend.length) ∧ W = w' := by
  obtain ⟨G, h1, _⟩ := h
  obtain ⟨F, hF⟩ := hd W G h1
  exact pending_c d F E W hF
theorem Zs.read {P : World → List Nat → Prop} {w0 W0 W : World} {X M : List Nat} {v : Value} {D : DS} {J : JS} {d : Nat} {E : DS} (hd : ∀ W G, P W G → ∃ F, Disk W d F E) (h : Zs P w0 W0 X M W v D J) (p : Int) : Calls Tryz.prog 34 #[.pointer (some ⟨d, 0, none⟩), .int .i64 p] W (ReadR W E p) := by
  obtain ⟨G, h1, _⟩ := h
  obtain ⟨F, hF⟩ := hd W G h1
  exact read_c d F E p W hF
set_option maxHeartbeats 16000000 in
theorem wbytes_c (w0 W0 : World) (X : List Nat) (x d g : Nat) (D : DS) (J : JS) (W : World) (h : Ww w0 W0 X x d g W D J) (hs : Sound D) : Calls Tryz.prog 21 #[.pointer (some ⟨x, 0, none⟩)] W fun e W' => e = .returned (.bool true) ∧ Ww w0 W0 X x d g W' D J := by
  obtain ⟨A, n, c, B, m, bb, Ar, nr, cr, hO, hZ⟩ := h
  obtain ⟨hrs, ⟨hn, hm, hfz, hfl⟩, ht, hst, hu, hbr⟩ := hZ.recs
  unfold wcs rjc at hO
  unfold rjc at hZ
  cases hfd : D.failed with
  | true =>
    rw [hfd] at hO hZ
    have HFD := hide hfd
    generalize D.fuse = fz at hO hZ
    generalize (J.turn : Int) = zt at hO hZ
    obtain ⟨sS, hz4⟩ : ∃ S : ByteArray, sv J.state = .string S := ⟨_, rfl⟩
    rw [hz4] at hO hZ
    generalize (J.used : Int) = zu at hO hZ
    generalize J.broken = br at hO hZ
    have HO := hide hO
    have HZ := hide hZ
    clear hO hZ hs hrs hn hm hfz hfl ht hst hu hbr hz4 hfd
    go_enter Tryz.func21, Tryz.ntmps21
    have kx := HO.out.cells 0 rfl
    go_wp2_with fail
    refine (Zs.failed keeps_disk HZ.out).mono ?_
    rintro e wq ⟨rfl, rfl⟩
    rw [HFD.out]
    go_wp2_with fail
    go_ret
    exact ⟨rfl, Ww.of HO.out HZ.out⟩
  | false =>
    rw [hfd] at hO hZ
    have HFD := hide hfd
    have HM := hide hm
    generalize D.fuse = fz at hO hZ
    generalize (J.turn : Int) = zt at hO hZ
    obtain ⟨sS, hz4⟩ : ∃ S : ByteArray, sv J.state = .string S := ⟨_, rfl⟩
    rw [hz4] at hO hZ
    generalize (J.used : Int) = zu at hO hZ
    generalize J.broken = br at hO hZ
    have HO := hide hO
    have HZ := hide hZ
    have HS := hide hs
    have hp9 := hs.top
    clear hO hZ hs hrs hn hm hfz hfl ht hst hu hbr hz4 hfd
    obtain ⟨pl, hpl⟩ : ∃ z, D.pages.length = z := ⟨_, rfl⟩
    have HPL := hide hpl
    rw [hpl] at hp9
    clear hpl
    go_enter Tryz.func21, Tryz.ntmps21
    have kx := HO.out.cells 0 rfl
    go_wp2_with fail
    clear kx
    go_loopw [3] (fun v3 wr => ∃ k : Nat, v3 = .int .i64 k ∧ k ≤ pl ∧ Own w0 [] [(x, 55, [.pointer (some ⟨d, 0, none⟩), .pointer (some ⟨g, 0, none⟩), .slice A n c, .slice B m bb, .int .i64 fz, .bool false, .int .i64 zt, .string sS, .slice Ar nr cr, .int .i64 zu, .bool br])] wr ∧ Zs (fun W G => Jn W g d G D J) w0 W0 X [x] wr (.agg ([.slice A n c, .slice B m bb, .int .i64 fz, .bool false, .int .i64 zt, .string sS, .slice Ar nr cr, .int .i64 zu, .bool br] : List Value).toArray) D J) (fun v3 _ => pl - (intOf v3).toNat)
    case atStart => exact ⟨0, rfl, Nat.zero_le _, HO.out, HZ.out⟩
    case round =>
      clear HO HZ
      obtain ⟨k, rfl, hk, hO, hZ⟩ := hrel
      have HO := hide hO
      have HZ := hide hZ
      clear hO hZ
      have kx := HO.out.cells 0 rfl
      go_wp2_with fail
      refine (Zs.pages keeps_disk HZ.out).mono ?_
      rintro e wq ⟨rfl, rfl⟩
      rw [HPL.out]
      by_cases hlt : k < pl
      · go_wp2_with fail
        refine (Zs.read keeps_disk HZ.out (k : Int)).mono ?_
        rintro e w6 ⟨v6, rfl, hbs6, _, hb6⟩
        rw [dRead_ok HFD.out k (by rw [HPL.out]; exact hlt)] at hbs6 ⊢
        obtain ⟨A6, m6, c6, rfl, _, _, _⟩ := hbs6.formN
        have H6 := hide hbs6
        replace HO := hide (HO.out.step hb6)
        replace HZ := hide (HZ.out.step (keeps_jn g d D J) hb6)
        clear hbs6 hb6 kx
        dsimp only at H6 ⊢
        go_wp2_with (first
          | ((with_reducible refine at_load 32 (.tmp 41) ?_); refine wpList_load_own HO.out rfl 32 (.tmp 41) rfl 0 _ 2 4 _ _ ([.slice A n c, .slice B m bb, .int .i64 fz, .bool false]) _ rfl rfl rfl Tryz.underlying32 rfl (by kernel_rfl) ?_))
        refine (Zs.look (keeps_jn g d D J) HZ.out (Q := RGot _ (content D k, 0)) (fun F hr => by
          have := rread_c F _ D (k : Int) _ (Rj.rf hr) (by have := HS.out.few; omega) (by have := HS.out.top; omega)
          rwa [dRead_ok HFD.out k (by rw [HPL.out]; exact hlt)] at this) (fun e w' h => by obtain ⟨v, _, _, hb⟩ := h; exact hb)).mono ?_
        rintro e w7 ⟨⟨v7, rfl, ho7, hb7⟩, hz⟩
        obtain ⟨A7, m7, c7, rfl, _, _, _⟩ := ho7.formN
        have H7 := hide ho7.bs
        replace H6 := hide (H6.out.step hb7)
        replace HO := hide (HO.out.step hb7)
        replace HZ := hide hz
        clear ho7 hb7 hz
        have s6 := run_string_bs H6.out
        have s7 := run_string_bs H7.out
        generalize content D k = cb at H6 H7 s6 s7
        go_wp2_with fail
        go_roundw
        case rel => exact ⟨k + 1, by go_num, by omega, HO.out, HZ.out⟩
        case measure => (simp [intOf]; omega)
      · obtain rfl : k = pl := by omega
        go_wp2_with fail
        refine wp_region_held_drew (S := fun W => (∀ j, W.cell? ⟨x, j, none⟩ = ([.pointer (some ⟨d, 0, none⟩), .pointer (some ⟨g, 0, none⟩), .slice A n c, .slice B m bb, .int .i64 fz, .bool false, .int .i64 zt, .string sS, .slice Ar nr cr, .int .i64 zu, .bool br] : List Value)[j]?)) (by kernel_rfl) (HO.out.drew.cells 0 rfl) (fun hS0 => ?_)
        replace HO := hide HO.out.drew
        replace HZ := hide (HZ.out.step (keeps_jn g d D J) (below_drew _))
        refine tk (i := 0) (v := _) rfl (by assumption) ?_
        try simp only [Act.put, qa, qb, qc, qd, qe, qf]
        refine tk (i := 1) (v := _) rfl (by assumption) ?_
        try simp only [Act.put, qa, qb, qc, qd, qe, qf]
        refine tk (i := 2) (v := _) rfl (by assumption) ?_
        try simp only [Act.put, qa, qb, qc, qd, qe, qf]
        refine tk (i := 3) (v := _) rfl (by assumption) ?_
        try simp only [Act.put, qa, qb, qc, qd, qe, qf]
        refine tk (i := 5) (v := _) rfl (by assumption) ?_
        try simp only [Act.put, qa, qb, qc, qd, qe, qf]
        refine tk (i := 6) (v := _) rfl (by assumption) ?_
        try simp only [Act.put, qa, qb, qc, qd, qe, qf]
        refine tk (i := 7) (v := _) rfl (by assumption) ?_
        try simp only [Act.put, qa, qb, qc, qd, qe, qf]
        refine tk (i := 8) (v := _) rfl (by assumption) ?_
        try simp only [Act.put, qa, qb, qc, qd, qe, qf]
        refine tk (i := 9) (v := _) rfl (by assumption) ?_
        try simp only [Act.put, qa, qb, qc, qd, qe, qf]
        refine tk (i := 10) (v := _) rfl (by assumption) ?_
        try simp only [Act.put, qa, qb, qc, qd, qe, qf]
        refine tk (i := 11) (v := _) rfl (by assumption) ?_
        try simp only [Act.put, qa, qb, qc, qd, qe, qf]
        refine wpAnyH_ready (rs := [4]) (by kernel_rfl) (by simp) ?_
        refine AllReadyH.cons rfl (fun K hK => ?_) AllReadyH.nil
        go_simp
        refine (Zs.pending keeps_disk HZ.out).mono ?_
        rintro e wq ⟨rfl, rfl⟩
        rw [← HM.out]
        refine hK.out _ _ (HO.out.cells 0 rfl) (fun hS11 => ?_)
        clear hK K
        try simp only [Act.put, qa, qb, qc, qd, qe, qf]
        refine tk (i := 12) (v := _) rfl (by assumption) ?_
        try simp only [Act.put, qa, qb, qc, qd, qe, qf]
        refine tk (i := 13) (v := _) rfl (by assumption) ?_
        try simp only [Act.put, qa, qb, qc, qd, qe, qf]
        refine wpAnyH_done (by kernel_rfl) ?_ _
        clear hS0
        go_wp2_with fail
        go_ret
        exact ⟨rfl, Ww.of HO.out HZ.out⟩
end Go.Proofs.YtpadgkkeihhneaaGreat
