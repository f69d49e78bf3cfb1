/- run. -/
import Derived.Test.YtlpnichgfhgdmaaOpen
namespace Go.Proofs.Ytlpnichgfhgdmaa
open Go.ChangeShapes Go.WideShapes Go.ChangeAt Go.RowKit
set_option linter.unusedVariables false
set_option linter.unusedSimpArgs false

/-- The cells of the operation at i. -/
theorem op_cells {w w' : World} {gl ol n c : Nat} {l : List OpV} {i : Nat} (h : OpsIn w (.slice (some ⟨gl, ol, none⟩) n c) l) (hi : i < l.length) (x : OpV) (hx : l[i]? = some x) {As : Option Addr} {ms cs : Nat} (hsv : x.sv = .slice As ms cs) (hb : ∀ a : Addr, a.block = gl → w'.cell? a = w.cell? a) :
    w'.cell? ⟨gl, ol + i * 6, none⟩ = some (.int .i64 x.kind) ∧ w'.cell? ⟨gl, ol + i * 6 + 1, none⟩ = some (.int .i64 x.page) ∧ w'.cell? ⟨gl, ol + i * 6 + 2, none⟩ = some (.int .i64 x.n) ∧ w'.cell? ⟨gl, ol + i * 6 + 3, none⟩ = some (.int .u8 x.fill) ∧ w'.cell? ⟨gl, ol + i * 6 + 4, none⟩ = some (.int .u8 x.short) ∧ w'.cell? ⟨gl, ol + i * 6 + 5, none⟩ = some (.slice As ms cs) := by
  obtain ⟨g, o, e, hg, hok, hc⟩ := h.at_ i hi
  obtain ⟨rfl, rfl⟩ : gl = g ∧ ol = o := by injection e with e; injection e with e1 e2; exact ⟨e1, e2⟩
  have hxe : l[i] = x := by rw [List.getElem?_eq_getElem hi] at hx; injection hx
  rw [hxe] at hc
  unfold OpV.cells at hc
  rw [hsv] at hc
  exact ⟨(hb _ rfl).trans (hc 0 (by decide)), (hb _ rfl).trans (hc 1 (by decide)), (hb _ rfl).trans (hc 2 (by decide)), (hb _ rfl).trans (hc 3 (by decide)), (hb _ rfl).trans (hc 4 (by decide)), (hb _ rfl).trans (hc 5 (by decide))⟩
theorem dRun_snoc (D : DS) (l : List OpV) (x : OpV) : dRun D (l ++ [x]) = dStep (dRun D l) x := by unfold dRun; rw [List.foldl_append]; rfl
/-- Between two rounds of run. -/
def RuR (W : World) (n g : Nat) (D0 : DS) (l : List OpV) (v3 v7 : Value) (w : World) : Prop :=
  ∃ (i d : Nat) (F : List Nat) (dv pv : Value), v3 = .pointer (some ⟨d, 0, none⟩) ∧ v7 = .int .i64 i ∧ i ≤ l.length ∧ Two W n g d F dv pv (dRun D0 (l.take i)) i w
/-- What run hands back. -/
def RunR (W : World) (D : DS) (e : Ending) (w' : World) : Prop :=
  ∃ d F, e = .returned (.pointer (some ⟨d, 0, none⟩)) ∧ Disk w' d F D ∧ (∀ j ∈ F, W.heap.size ≤ j) ∧ Below W.heap.size W w'
theorem surv_out {W : World} {x : OpV} (h : x.Ok W) {F : List Nat} (hF : ∀ j ∈ F, W.heap.size ≤ j) (hl : x.sl ≠ []) : ∀ j, x.sv.ownBlock = some j → j ∉ F := by
  intro j hj hm
  obtain ⟨A, c, hv, _, _, _, h3⟩ := h.surv
  obtain ⟨g, o, rfl, hg, _⟩ := h3 (List.length_pos_iff.2 hl)
  rw [hv] at hj
  have e : g = j := by injection hj
  subst e
  have := hF _ hm; omega

set_option maxRecDepth 100000 in
set_option maxHeartbeats 4000000 in
theorem run_c (v : Value) (l : List OpV) (w : World) (h : OpsIn w v l) (hl : l.length ≤ 1000) : Calls Try.prog 22 #[v] w (RunR w (dRun (dNew 6) l)) := by
  obtain ⟨Al, nl, cl, rfl, hnl, hnc, hcm⟩ := h.form
  have H := hide h
  have HL := hide hl
  clear h hl
  go_enter Try.func22, Try.ntmps22
  go_wp2_with fail
  refine (new_c 6 (by decide) (by decide) w).mono ?_
  rintro e w1 ⟨d, F, rfl, hd, hb1, hF⟩
  have HD := hide hd
  have HB1 := hide hb1
  have HF := hide hF
  clear hd hb1 hF
  go_wp2_with fail
  refine (new_r F 6 (by decide) (by decide) w1 HD.out.lt).mono ?_
  rintro e w2 ⟨vr, rfl, hr, hb2⟩
  obtain ⟨A, n, c, B, m, b, vs, xs, rfl, hk⟩ := hr.form
  unfold rv
  have HK := hide hk
  have HB2 := hide hb2
  clear hr hk hb2
  go_wp2_with fail
  go_loopw [3, 7] (fun v3 v7 wr => RuR w 6 w2.heap.size (dNew 6) l v3 v7 wr) (fun _ v7 _ => nl - (intOf v7).toNat)
  case atStart =>
    have hz2 := HB2.out.size
    have hz1 := HB1.out.size
    have kb := below_first w2 (.cells #[.slice A n c, .slice B m b, .int .i64 (dNew 6).fuse, .bool (dNew 6).failed] 53)
    refine ⟨0, d, F, .slice A n c, .slice B m b, rfl, rfl, Nat.zero_le _, ⟨(HD.out.step HB2.out).step kb, Blk.new w2 _ _, ⟨vs, xs, HK.out.touch (Touch.below kb F) (fun j hj => ?_)⟩, fun hm => ?_, HF.out, by omega, (HB1.out.trans (HB2.out.mono hz1)).trans (kb.mono (by omega)), by simp [dRun, dNew], by simp [dRun, dNew]⟩⟩
    · rcases List.mem_cons.1 hj with e | e
      · right; omega
      · exact .inl e
    · have := HD.out.lt _ hm; omega
  case round =>
    obtain ⟨i, d1, F1, dv, pv, rfl, rfl, hi, ht⟩ := hrel
    obtain ⟨dA, dn, dc, rfl⟩ : ∃ A n c, dv = .slice A n c := by obtain ⟨_, _, hk⟩ := ht.rk; obtain ⟨A, c, e, _⟩ := hk.dur.form; exact ⟨A, _, c, e⟩
    obtain ⟨pA, pn, pc2, rfl⟩ : ∃ A n c, pv = .slice A n c := by obtain ⟨_, _, hk⟩ := ht.rk; obtain ⟨A, c, e, _⟩ := hk.pend.form; exact ⟨A, _, c, e⟩
    have HT := hide ht
    by_cases hlt : i < nl
    · have hil : i < l.length := by rw [← hnl.out]; exact hlt
      obtain ⟨gl, ol, rfl, hgl, hok, _⟩ := H.out.at_ i hil
      have hxs : l[i]? = some l[i] := List.getElem?_eq_getElem hil
      have hnext : dStep (dRun (dNew 6) (l.take i)) l[i] = dRun (dNew 6) (l.take (i + 1)) := by rw [List.take_succ_eq_append_getElem hil, dRun_snoc]
      generalize l[i] = x at *
      obtain ⟨As, ms, cs, hsv, _, _, _⟩ := hok.surv.formN
      have hpd := ht.pend
      have hln := ht.len
      have HNX := hide hnext
      generalize dRun (dNew 6) (l.take i) = E at *
      have HST := hide (fun (X : World) (k : Below wr.heap.size wr X) => step_c d1 F1 (rv (.slice dA dn dc) (.slice pA pn pc2) E) E x X (ht.disk.step k) (ht.rf.step k) (hok.step (ht.b.trans (k.mono ht.b.size))) (by have := HL.out; omega) (by omega) (fun hne => surv_out hok ht.lo hne))
      unfold OpV.val rv at HST
      rw [hsv] at HST
      have HOC : Hid (∀ X : World, Below w.heap.size w X → X.cell? ⟨gl, ol + i * 6, none⟩ = some (.int .i64 x.kind) ∧ X.cell? ⟨gl, ol + i * 6 + 1, none⟩ = some (.int .i64 x.page) ∧ X.cell? ⟨gl, ol + i * 6 + 2, none⟩ = some (.int .i64 x.n) ∧ X.cell? ⟨gl, ol + i * 6 + 3, none⟩ = some (.int .u8 x.fill) ∧ X.cell? ⟨gl, ol + i * 6 + 4, none⟩ = some (.int .u8 x.short) ∧ X.cell? ⟨gl, ol + i * 6 + 5, none⟩ = some (.slice As ms cs)) := hide (fun X k => op_cells H.out hil x hxs hsv (fun a ha => k.cell (p := a) (by rw [ha]; exact hgl)))
      have HX := hide hxs
      have hki : (i : Int) < (nl : Int) := by omega
      have HLT := hide hlt
      obtain ⟨k0, k1, k2, k3, _⟩ := blk4 ht.box
      generalize hz : E.fuse = z at *
      generalize hfl : E.failed = fl at *
      have HZ := hide hz
      have HFL := hide hfl
      have HBXX := hide ht.box
      have HBW := hide ht.b
      rw [hz, hfl] at HBXX
      clear ht hlt hil hok hxs hnext hsv hpd hln hz hfl hgl
      go_wp2_with fail
      refine wp_region_held_drew (S := fun w' => w'.cell? ⟨gl, ol + i * 6, none⟩ = some (.int .i64 x.kind) ∧ w'.cell? ⟨gl, ol + i * 6 + 1, none⟩ = some (.int .i64 x.page) ∧ w'.cell? ⟨gl, ol + i * 6 + 2, none⟩ = some (.int .i64 x.n) ∧ w'.cell? ⟨gl, ol + i * 6 + 3, none⟩ = some (.int .u8 x.fill) ∧ w'.cell? ⟨gl, ol + i * 6 + 4, none⟩ = some (.int .u8 x.short) ∧ w'.cell? ⟨gl, ol + i * 6 + 5, none⟩ = some (.slice As ms cs)) (by kernel_rfl) (HOC.out _ HBW.out.drew) (fun hS0 => ?_)
      refine wpAnyH_take (i := 0) (v := ?vu0) rfl (by kernel_rfl) (by kernel_rfl) (by kernel_rfl) (fun _ _ _ h => h) (Or.inl ⟨by rfl, ?hyu0⟩) (by assumption) ?restu0
      case hyu0 => (intro w hSw; (try dsimp only at hSw); go_simp; first | done | (with_reducible rfl))
      try simp only [Act.put, List.getElem_toArray, List.getElem_cons_zero, List.getElem_cons_succ, List.setIfInBounds_toArray, List.set_cons_zero, List.set_cons_succ]
      refine wpAnyH_take (i := 2) (v := ?vu1) rfl (by kernel_rfl) (by kernel_rfl) (by kernel_rfl) (fun _ _ _ h => h) (Or.inl ⟨by rfl, ?hyu1⟩) (by assumption) ?restu1
      case hyu1 => (intro w hSw; (try dsimp only at hSw); go_simp; first | done | (with_reducible rfl))
      try simp only [Act.put, List.getElem_toArray, List.getElem_cons_zero, List.getElem_cons_succ, List.setIfInBounds_toArray, List.set_cons_zero, List.set_cons_succ]
      refine wpAnyH_take (i := 3) (v := ?vu2) rfl (by kernel_rfl) (by kernel_rfl) (by kernel_rfl) (fun _ _ _ h => h) (Or.inl ⟨by rfl, ?hyu2⟩) (by assumption) ?restu2
      case hyu2 => (intro w hSw; (try dsimp only at hSw); go_simp; first | done | (with_reducible rfl))
      try simp only [Act.put, List.getElem_toArray, List.getElem_cons_zero, List.getElem_cons_succ, List.setIfInBounds_toArray, List.set_cons_zero, List.set_cons_succ]
      refine wpAnyH_take (i := 4) (v := ?vu3) rfl (by kernel_rfl) (by kernel_rfl) (by kernel_rfl) (fun _ _ _ h => h) (Or.inl ⟨by rfl, ?hyu3⟩) (by assumption) ?restu3
      case hyu3 => (intro w hSw; (try dsimp only at hSw); go_simp; first | done | (with_reducible rfl))
      try simp only [Act.put, List.getElem_toArray, List.getElem_cons_zero, List.getElem_cons_succ, List.setIfInBounds_toArray, List.set_cons_zero, List.set_cons_succ]
      refine wpAnyH_take (i := 5) (v := ?vu4) rfl (by kernel_rfl) (by kernel_rfl) (by kernel_rfl) (fun _ _ _ h => h) (Or.inl ⟨by rfl, ?hyu4⟩) (by assumption) ?restu4
      case hyu4 => (intro w hSw; (try dsimp only at hSw); go_simp; first | done | (with_reducible rfl))
      try simp only [Act.put, List.getElem_toArray, List.getElem_cons_zero, List.getElem_cons_succ, List.setIfInBounds_toArray, List.set_cons_zero, List.set_cons_succ]
      refine wpAnyH_ready (rs := [1]) (by kernel_rfl) (by simp) ?_
      refine AllReadyH.cons rfl (fun K hK => ?_) AllReadyH.nil
      go_simp
      refine hK.out _ _ (HOC.out _ HBW.out.drew) (fun hS5 => ?_)
      clear hK K
      try simp only [Act.put, List.getElem_toArray, List.getElem_cons_zero, List.getElem_cons_succ, List.setIfInBounds_toArray, List.set_cons_zero, List.set_cons_succ]
      refine wpAnyH_ready (rs := [6]) (by kernel_rfl) (by simp) ?_
      refine AllReadyH.cons rfl (fun K hK => ?_) AllReadyH.nil
      go_simp
      refine (HST.out _ (Below.refl _ _).drew).mono ?_
      rintro e Wx ⟨d2, F2, v2, rfl, hd2, hr2, ht2, hF2⟩
      obtain ⟨A', n', c', B', m', b', vs', xs', rfl, hk'⟩ := hr2.form
      unfold rv
      have HD2 := hide hd2
      have HK2 := hide hk'
      have HT2 := hide ht2
      have HF2 := hide hF2
      have HBX2 := hide (HBXX.out.drew.touch ht2 HT.out.out)
      have HBW2 := hide (Below.touch HBW.out.drew ht2 HT.out.lo HBW.out.drew.size)
      generalize hz1 : (dStep E x).fuse = z1
      generalize hfl1 : (dStep E x).failed = fl1
      have HZ1 := hide hz1
      have HFL1 := hide hfl1
      clear hd2 hr2 hk' ht2 hF2 hz1 hfl1
      refine hK.out _ _ (HOC.out _ HBW2.out) (fun hS6 => ?_)
      clear hK K
      try simp only [Act.put, List.getElem_toArray, List.getElem_cons_zero, List.getElem_cons_succ, List.setIfInBounds_toArray, List.set_cons_zero, List.set_cons_succ]
      refine wpAnyH_take (i := 7) (v := ?vu7) rfl (by kernel_rfl) (by kernel_rfl) (by kernel_rfl) (fun _ _ _ h => h) (Or.inl ⟨by rfl, ?hyu7⟩) (by assumption) ?restu7
      case hyu7 => (intro w hSw; (try dsimp only at hSw); go_simp; first | done | (with_reducible rfl))
      try simp only [Act.put, List.getElem_toArray, List.getElem_cons_zero, List.getElem_cons_succ, List.setIfInBounds_toArray, List.set_cons_zero, List.set_cons_succ]
      refine wpAnyH_take (i := 8) (v := ?vu8) rfl (by kernel_rfl) (by kernel_rfl) (by kernel_rfl) (fun _ _ _ h => h) (Or.inl ⟨by rfl, ?hyu8⟩) (by assumption) ?restu8
      case hyu8 => (intro w hSw; (try dsimp only at hSw); go_simp; first | done | (with_reducible rfl))
      try simp only [Act.put, List.getElem_toArray, List.getElem_cons_zero, List.getElem_cons_succ, List.setIfInBounds_toArray, List.set_cons_zero, List.set_cons_succ]
      refine wpAnyH_take (i := 9) (v := ?vu9) rfl (by kernel_rfl) (by kernel_rfl) (by kernel_rfl) (fun _ _ _ h => h) (Or.inl ⟨by rfl, ?hyu9⟩) (by assumption) ?restu9
      case hyu9 => (intro w hSw; (try dsimp only at hSw); go_simp; first | done | (with_reducible rfl))
      try simp only [Act.put, List.getElem_toArray, List.getElem_cons_zero, List.getElem_cons_succ, List.setIfInBounds_toArray, List.set_cons_zero, List.set_cons_succ]
      refine wpAnyH_take (i := 10) (v := ?vu10) rfl (by kernel_rfl) (by kernel_rfl) (by kernel_rfl) (fun _ _ _ h => h) (Or.inl ⟨by rfl, ?hyu10⟩) (by assumption) ?restu10
      case hyu10 => (intro w hSw; (try dsimp only at hSw); go_simp; first | done | (with_reducible rfl))
      try simp only [Act.put, List.getElem_toArray, List.getElem_cons_zero, List.getElem_cons_succ, List.setIfInBounds_toArray, List.set_cons_zero, List.set_cons_succ]
      refine wpAnyH_take (i := 11) (v := ?vu11) rfl (by kernel_rfl) (by kernel_rfl) (by kernel_rfl) (fun _ _ _ h => h) (Or.inl ⟨by rfl, ?hyu11⟩) (by assumption) ?restu11
      case hyu11 => (intro w hSw; (try dsimp only at hSw); go_simp; first | done | (with_reducible rfl))
      try simp only [Act.put, List.getElem_toArray, List.getElem_cons_zero, List.getElem_cons_succ, List.setIfInBounds_toArray, List.set_cons_zero, List.set_cons_succ]
      refine wpAnyH_ready (rs := [12]) (by kernel_rfl) (by simp) ?_
      refine AllReadyH.cons rfl (fun K hK => ?_) AllReadyH.nil
      refine step_store_blk rfl 53 (.tmp 5) (.tmp 31) rfl w2.heap.size 53 #[.slice dA dn dc, .slice pA pn pc2, .int .i64 z, .bool fl] #[.slice A' n' c', .slice B' m' b', .int .i64 z1, .bool fl1] rfl rfl HBX2.out rfl size_disk (one_rv _ _ _ _ _ _ _ _) ?_
      intro W5 hx5 ht5 hs5
      have HX5 := hide hx5
      have HT5 := hide ht5
      have HBW5 := hide (Below.touch HBW2.out ht5 (by simp; exact HT.out.glo) HBW2.out.size)
      clear hx5 ht5 hs5
      refine hK.out _ _ (HOC.out _ HBW5.out) (fun hS12 => ?_)
      clear hK K
      try simp only [Act.put, List.getElem_toArray, List.getElem_cons_zero, List.getElem_cons_succ, List.setIfInBounds_toArray, List.set_cons_zero, List.set_cons_succ]
      refine wpAnyH_done (by kernel_rfl) ?_ _
      go_wp2_with fail
      go_roundw
      case rel =>
        have hb5 := HX5.out
        rw [← HZ1.out, ← HFL1.out] at hb5
        have hn := (HT.out.step (Below.refl _ _).drew).next HD2.out HK2.out HT2.out HF2.out HT5.out hb5
        rw [HNX.out] at hn
        exact ⟨i + 1, d2, F2, _, _, rfl, by go_num, by have := HLT.out; have := hnl.out; omega, hn⟩
      case measure => have := HLT.out; simp [intOf]; omega
    · obtain rfl : i = nl := by have := hnl.out; omega
      clear hlt ht hi
      go_wp2_with fail
      go_ret
      have hd := HT.out.disk
      rw [hnl.out, List.take_length] at hd
      exact ⟨d1, F1, rfl, hd, HT.out.lo, HT.out.b⟩
end Go.Proofs.Ytlpnichgfhgdmaa
