/- DiskCalls: after every operation the disk is as the reference says. -/
import Derived.Test.YtlpnichgfhgdmaaDurable
namespace Go.Proofs.Ytlpnichgfhgdmaa
open Go.ChangeShapes Go.WideShapes Go.ChangeAt Go.RowKit
set_option linter.unusedVariables false
set_option linter.unusedSimpArgs false

theorem have_tail4 {goal : Prop} {G I : Nat → Nat → Value → World → Prop} (main : (∀ g d v w, I g d v w → G g d v w) → goal) (tl : ∀ g d v w, I g d v w → G g d v w) : goal := main tl
/-- What stands when the step was made and the variable for its result laid. -/
structure CaI (wr : World) (F : List Nat) (D' : DS) (g12 d2 : Nat) (v2 : Value) (Wt : World) : Prop where
  ex : ∃ F2, Disk Wt d2 F2 D' ∧ Rf Wt F2 v2 D' ∧ Touch F wr Wt ∧ (∀ j ∈ F2, j ∈ F ∨ wr.heap.size ≤ j) ∧ g12 ∉ F2
  blk : Blk Wt g12 53 #[.slice none 0 0, .slice none 0 0, .int .i64 0, .bool false]
  lo : wr.heap.size ≤ g12
theorem ca_after {wr Wx : World} {F F2 : List Nat} {D' : DS} {d2 : Nat} {v2 : Value} (hd : Disk Wx d2 F2 D') (hr : Rf Wx F2 v2 D') (ht : Touch F wr Wx) (hF : ∀ j ∈ F2, j ∈ F ∨ wr.heap.size ≤ j) : CaI wr F D' Wx.heap.size d2 v2 (Wx.alloc (.cells #[.slice none 0 0, .slice none 0 0, .int .i64 0, .bool false] 53)) :=
  ⟨⟨F2, hd.step (below_first _ _), hr.step (below_first _ _), ht.alloc _, hF, fun hm => by have := hd.lt _ hm; omega⟩, Blk.new _ _ _, ht.size⟩
theorem ca_before {wr Wx : World} {F F2 : List Nat} {D' : DS} {d2 : Nat} {v2 : Value} (hlt : ∀ j ∈ F, j < wr.heap.size) (hd : Disk Wx d2 F2 D') (hr : Rf Wx F2 v2 D') (ht : Touch F (wr.alloc (.cells #[.slice none 0 0, .slice none 0 0, .int .i64 0, .bool false] 53)).drew Wx) (hF : ∀ j ∈ F2, j ∈ F ∨ (wr.alloc (.cells #[.slice none 0 0, .slice none 0 0, .int .i64 0, .bool false] 53)).drew.heap.size ≤ j) : CaI wr F D' wr.heap.size d2 v2 Wx := by
  have hs : (wr.alloc (.cells #[.slice none 0 0, .slice none 0 0, .int .i64 0, .bool false] 53)).drew.heap.size = wr.heap.size + 1 := by show (wr.alloc _).heap.size = _; rw [World.size_alloc]
  rw [hs] at hF
  refine ⟨⟨F2, hd, hr, (((Touch.refl F wr).alloc _).drew).trans ht, fun j hj => (hF j hj).imp_right (fun e => by omega), fun hm => ?_⟩, ((Blk.new wr _ _).drew).touch ht (fun hm => by have := hlt _ hm; omega), Nat.le_refl _⟩
  rcases hF _ hm with e | e
  · have := hlt _ e; omega
  · omega
/-- Between two rounds of DiskCalls. -/
def CaR (W : World) (n g : Nat) (D0 : DS) (l : List OpV) (v6 v10 : Value) (w : World) : Prop :=
  ∃ (i d : Nat) (F : List Nat) (dv pv : Value), v6 = .pointer (some ⟨d, 0, none⟩) ∧ v10 = .int .i64 i ∧ i ≤ l.length ∧ Two W n g d F dv pv (dRun D0 (l.take i)) i w

set_option maxRecDepth 100000 in
set_option maxHeartbeats 8000000 in
theorem walkDiskCalls (W : World) (a0 : Int) (ws0 : (Lit.int .u8 a0).wf = true) (v1 : Value) (l : List OpV) (h1 : OpsIn W v1 l) :
    Calls Try.prog 8 #[.int .u8 a0, v1] W fun e w' => e = .returned (.bool true) ∧ Below W.heap.size W w' := by
  have ⟨q0, q1⟩ : 0 ≤ a0 ∧ a0 ≤ 255 := by simpa [Lit.wf, IntKind.min, IntKind.max, IntKind.signed, IntKind.bits] using ws0
  have e6 : a0.tmod 6 = a0 % 6 := Int.tmod_eq_emod_of_nonneg q0
  obtain ⟨n, hn⟩ : ∃ n : Nat, 1 + a0 % 6 = n := ⟨(1 + a0 % 6).toNat, by omega⟩
  have hn1 : 1 ≤ n := by omega
  have hn6 : n ≤ 6 := by omega
  have hm6 : a0 % 6 = (n : Int) - 1 := by omega
  rw [hm6] at e6
  have hnz : (1 : Int) ≤ (n : Int) := by omega
  have hnz6 : (n : Int) ≤ 6 := by omega
  obtain ⟨Al, nl, cl, rfl, hnl, hnc, hcm⟩ := h1.form
  have H := hide h1
  have HFW := hide (fun (X : World) (k : Below W.heap.size W X) => few_c _ l 30 X (h1.step k))
  have HN1 := hide hn1
  have HN6 := hide hn6
  clear ws0 q0 q1 hn hn1 hn6 hm6 h1
  by_cases hf : fewB l 30 = true
  case neg =>
    have hf' : fewB l 30 = false := by simpa using hf
    rw [hf'] at HFW
    clear hf hf'
    go_enter Try.func8, Try.ntmps8
    go_wp2_with fail
    refine (awake_c _).mono ?_
    rintro e w1 ⟨rfl, hb1⟩
    go_wp2_with fail
    refine (HFW.out w1 hb1).mono ?_
    rintro e w2 ⟨rfl, rfl⟩
    go_wp2_with fail
    go_ret
    exact ⟨rfl, hb1⟩
  have HL := hide (fewB_len (k := 30) hf)
  rw [hf] at HFW
  clear hf
  go_enter Try.func8, Try.ntmps8
  go_wp2_with fail
  refine (awake_c _).mono ?_
  rintro e w0 ⟨rfl, hb1⟩
  have HB0 := hide hb1
  clear hb1
  go_wp2_with fail
  refine (HFW.out w0 HB0.out).mono ?_
  rintro e w2 ⟨rfl, rfl⟩
  clear HFW
  go_wp2_with fail
  rw [show (1 + ((n : Int) - 1)) = (n : Int) by omega]
  refine (new_c n HN1.out (Nat.le_trans HN6.out (by decide)) w0).mono ?_
  rintro e w1 ⟨d, F, rfl, hd, hb1, hF⟩
  have HD := hide hd
  have HB1 := hide (HB0.out.trans (hb1.mono HB0.out.size))
  have HF : Hid (∀ j ∈ F, W.heap.size ≤ j) := hide (fun j hj => Nat.le_trans HB0.out.size (hF j hj))
  clear hd hb1 hF
  go_wp2_with fail
  refine (new_r F n HN1.out (Nat.le_trans HN6.out (by decide)) w1 HD.out.lt).mono ?_
  rintro e w2 ⟨vr, rfl, hr, hb2⟩
  obtain ⟨A, nn, c, B, m, b, vs, xs, rfl, hk⟩ := hr.form
  unfold rv
  have HK := hide hk
  have HB2 := hide hb2
  clear hr hk hb2
  obtain ⟨g, hg⟩ : ∃ g, g = w2.heap.size := ⟨_, rfl⟩
  obtain ⟨w3, hw3⟩ : ∃ w3, w3 = w2.alloc (.cells #[.slice A nn c, .slice B m b, .int .i64 (dNew n).fuse, .bool (dNew n).failed] 53) := ⟨_, rfl⟩
  have HT0 : Hid (Two W n g d F (.slice A nn c) (.slice B m b) (dNew n) 0 w3) := hide (by
    have hz2 := HB2.out.size
    have hz1 := HB1.out.size
    have kb := below_first w2 (.cells #[.slice A nn c, .slice B m b, .int .i64 (dNew n).fuse, .bool (dNew n).failed] 53)
    subst hg hw3
    refine ⟨(HD.out.step HB2.out).step kb, Blk.new w2 _ _, ⟨vs, xs, HK.out.touch (Touch.below kb F) (fun j hj => ?_)⟩, fun hm => ?_, HF.out, by omega, (HB1.out.trans (HB2.out.mono hz1)).trans (kb.mono (by omega)), by simp [dNew], by simp [dNew]⟩
    · rcases List.mem_cons.1 hj with e | e
      · right; omega
      · exact .inl e
    · have := HD.out.lt _ hm; omega)
  have HSA := hide (same_c d F (rv (.slice A nn c) (.slice B m b) (dNew n)) (dNew n) w3 HT0.out.disk HT0.out.rf (by simp [dNew]) (by simp [dNew]; have := HN6.out; omega))
  unfold rv at HSA
  have hfz : (dNew n).fuse = -1 := rfl
  have hff : (dNew n).failed = false := rfl
  rw [hfz, hff] at hw3 HSA ⊢
  clear hfz hff HK HB2 HD HB1 HF
  obtain ⟨k0, k1, k2, k3, _⟩ := blk4 HT0.out.box
  go_wp2_with fail
  rw [← hg, ← hw3]
  refine HSA.out.mono ?_
  rintro e w4 ⟨rfl, hb4⟩
  have HT4 := hide (HT0.out.step hb4)
  clear hb4 HSA hw3 hg k0 k1 k2 k3
  go_wp2_with fail
  go_loopw [6, 10, 11, 12, 13] (fun v6 v10 _ _ _ wr => CaR W n g (dNew n) l v6 v10 wr) (fun _ v10 _ _ _ _ => nl - (intOf v10).toNat)
  case atStart => exact ⟨0, d, F, _, _, rfl, rfl, Nat.zero_le _, HT4.out⟩
  case round =>
    obtain ⟨i, d1, F1, dv, pv, rfl, rfl, hi, ht⟩ := hrel
    obtain ⟨dA, dn, dc, rfl⟩ : ∃ A n c, dv = .slice A n c := by obtain ⟨_, _, hk⟩ := ht.rk; obtain ⟨A, c, e, _⟩ := hk.dur.form; exact ⟨A, _, c, e⟩
    obtain ⟨pA, pn, pc2, rfl⟩ : ∃ A n c, pv = .slice A n c := by obtain ⟨_, _, hk⟩ := ht.rk; obtain ⟨A, c, e, _⟩ := hk.pend.form; exact ⟨A, _, c, e⟩
    have HT := hide ht
    by_cases hlt : i < nl
    · have hil : i < l.length := by rw [← hnl.out]; exact hlt
      obtain ⟨gl, ol, rfl, hgl, hok, _⟩ := H.out.at_ i hil
      have hxs : l[i]? = some l[i] := List.getElem?_eq_getElem hil
      have hnext : dStep (dRun (dNew n) (l.take i)) l[i] = dRun (dNew n) (l.take (i + 1)) := by rw [List.take_succ_eq_append_getElem hil, dRun_snoc]
      generalize l[i] = x at *
      obtain ⟨As, ms, cs, hsv, _, _, _⟩ := hok.surv.formN
      have hpd := ht.pend
      have hln := ht.len
      have HNX := hide hnext
      generalize dRun (dNew n) (l.take i) = E at *
      have HST := hide (fun (X : World) (k : Below wr.heap.size wr X) => step_c d1 F1 (rv (.slice dA dn dc) (.slice pA pn pc2) E) E x X (ht.disk.step k) (ht.rf.step k) (hok.step (ht.b.trans (k.mono ht.b.size))) (by have := HL.out; omega) (by have := HN6.out; omega) (fun hne => surv_out hok ht.lo hne))
      have HPD : Hid (E.pend.length ≤ 30 ∧ E.pages.length ≤ 6) := hide ⟨by have := HL.out; omega, by have := HN6.out; omega⟩
      have HOKX := hide hok
      unfold OpV.val rv at HST
      rw [hsv] at HST
      have HOC : Hid (∀ X : World, Below W.heap.size W X → X.cell? ⟨gl, ol + i * 6, none⟩ = some (.int .i64 x.kind) ∧ X.cell? ⟨gl, ol + i * 6 + 1, none⟩ = some (.int .i64 x.page) ∧ X.cell? ⟨gl, ol + i * 6 + 2, none⟩ = some (.int .i64 x.n) ∧ X.cell? ⟨gl, ol + i * 6 + 3, none⟩ = some (.int .u8 x.fill) ∧ X.cell? ⟨gl, ol + i * 6 + 4, none⟩ = some (.int .u8 x.short) ∧ X.cell? ⟨gl, ol + i * 6 + 5, none⟩ = some (.slice As ms cs)) := hide (fun X k => op_cells H.out hil x hxs hsv (fun a ha => k.cell (p := a) (by rw [ha]; exact hgl)))
      have hki : (i : Int) < (nl : Int) := by omega
      have HLT := hide hlt
      generalize hz : E.fuse = z at *
      generalize hfl : E.failed = fl at *
      have HBXX := hide ht.box
      have HBW := hide ht.b
      rw [hz, hfl] at HBXX
      clear ht hlt hil hok hxs hnext hsv hpd hln hz hfl hgl
      go_wp2_with fail
      refine wp_region_held_drew (S := fun w' => (w'.cell? ⟨g, 0, none⟩ = some (.slice dA dn dc) ∧ w'.cell? ⟨g, 1, none⟩ = some (.slice pA pn pc2) ∧ w'.cell? ⟨g, 2, none⟩ = some (.int .i64 z) ∧ w'.cell? ⟨g, 3, none⟩ = some (.bool fl)) ∧ (w'.cell? ⟨gl, ol + i * 6, none⟩ = some (.int .i64 x.kind) ∧ w'.cell? ⟨gl, ol + i * 6 + 1, none⟩ = some (.int .i64 x.page) ∧ w'.cell? ⟨gl, ol + i * 6 + 2, none⟩ = some (.int .i64 x.n) ∧ w'.cell? ⟨gl, ol + i * 6 + 3, none⟩ = some (.int .u8 x.fill) ∧ w'.cell? ⟨gl, ol + i * 6 + 4, none⟩ = some (.int .u8 x.short) ∧ w'.cell? ⟨gl, ol + i * 6 + 5, none⟩ = some (.slice As ms cs))) (by kernel_rfl) (⟨four_of HBXX.out.drew, HOC.out _ HBW.out.drew⟩) (fun hS0 => ?_)
      simp only [List.size_toArray, List.length_cons, List.length_nil, Nat.reduceAdd, Array.replicate_succ, Array.replicate_zero, List.push_toArray, List.append_toArray, List.nil_append, List.cons_append]
      refine wpAnyH_take (i := 0) (v := ?vcz0) rfl (by kernel_rfl) (by kernel_rfl) (by kernel_rfl) (fun _ _ _ h => h) (Or.inl ⟨by rfl, ?hycz0⟩) (by assumption) ?restcz0
      case hycz0 => (intro w hSw; (try dsimp only at hSw); go_simp; first | done | (with_reducible rfl))
      try simp only [Act.put, List.getElem_toArray, List.getElem_cons_zero, List.getElem_cons_succ, List.setIfInBounds_toArray, List.set_cons_zero, List.set_cons_succ]
      refine wpAnyH_take (i := 1) (v := ?vcz1) rfl (by kernel_rfl) (by kernel_rfl) (by kernel_rfl) (fun _ _ _ h => h) (Or.inl ⟨by rfl, ?hycz1⟩) (by assumption) ?restcz1
      case hycz1 => (intro w hSw; (try dsimp only at hSw); go_simp; first | done | (with_reducible rfl))
      try simp only [Act.put, List.getElem_toArray, List.getElem_cons_zero, List.getElem_cons_succ, List.setIfInBounds_toArray, List.set_cons_zero, List.set_cons_succ]
      refine wpAnyH_take (i := 2) (v := ?vcz2) rfl (by kernel_rfl) (by kernel_rfl) (by kernel_rfl) (fun _ _ _ h => h) (Or.inl ⟨by rfl, ?hycz2⟩) (by assumption) ?restcz2
      case hycz2 => (intro w hSw; (try dsimp only at hSw); go_simp; first | done | (with_reducible rfl))
      try simp only [Act.put, List.getElem_toArray, List.getElem_cons_zero, List.getElem_cons_succ, List.setIfInBounds_toArray, List.set_cons_zero, List.set_cons_succ]
      refine wpAnyH_take (i := 3) (v := ?vcz3) rfl (by kernel_rfl) (by kernel_rfl) (by kernel_rfl) (fun _ _ _ h => h) (Or.inl ⟨by rfl, ?hycz3⟩) (by assumption) ?restcz3
      case hycz3 => (intro w hSw; (try dsimp only at hSw); go_simp; first | done | (with_reducible rfl))
      try simp only [Act.put, List.getElem_toArray, List.getElem_cons_zero, List.getElem_cons_succ, List.setIfInBounds_toArray, List.set_cons_zero, List.set_cons_succ]
      refine wpAnyH_take (i := 4) (v := ?vcz4) rfl (by kernel_rfl) (by kernel_rfl) (by kernel_rfl) (fun _ _ _ h => h) (Or.inl ⟨by rfl, ?hycz4⟩) (by assumption) ?restcz4
      case hycz4 => (intro w hSw; (try dsimp only at hSw); go_simp; first | done | (with_reducible rfl))
      try simp only [Act.put, List.getElem_toArray, List.getElem_cons_zero, List.getElem_cons_succ, List.setIfInBounds_toArray, List.set_cons_zero, List.set_cons_succ]
      refine wpAnyH_take (i := 5) (v := ?vcz5) rfl (by kernel_rfl) (by kernel_rfl) (by kernel_rfl) (fun _ _ _ h => h) (Or.inl ⟨by rfl, ?hycz5⟩) (by assumption) ?restcz5
      case hycz5 => (intro w hSw; (try dsimp only at hSw); go_simp; first | done | (with_reducible rfl))
      try simp only [Act.put, List.getElem_toArray, List.getElem_cons_zero, List.getElem_cons_succ, List.setIfInBounds_toArray, List.set_cons_zero, List.set_cons_succ]
      refine' have_tail4 (I := CaI wr F1 (dStep E x)) (fun tail => ?_) ?_
      rotate_left
      · refine wpAnyH_ready (rs := [6, 11]) (by kernel_rfl) (by simp) ?_
        refine AllReadyH.cons rfl (fun K hK => ?_) (AllReadyH.cons rfl (fun K hK => ?_) AllReadyH.nil)
        · go_simp
          refine (HST.out _ (Below.refl _ _).drew).mono ?_
          rintro e Wx ⟨d2, F2, v2, rfl, hd2, hr2, ht2, hF2⟩
          have HBX2 := hide (HBXX.out.drew.touch ht2 HT.out.out)
          have HBW2 := hide (Below.touch HBW.out.drew ht2 HT.out.lo HBW.out.drew.size)
          have HCA := hide (ca_after hd2 hr2 ((Touch.refl F1 wr).drew.trans ht2) hF2)
          clear hd2 hr2 ht2 hF2
          refine hK.out _ _ (⟨four_of HBX2.out, HOC.out _ HBW2.out⟩) (fun _ => ?_)
          clear hK K
          try simp only [Act.put, List.getElem_toArray, List.getElem_cons_zero, List.getElem_cons_succ, List.setIfInBounds_toArray, List.set_cons_zero, List.set_cons_succ]
          refine wpAnyH_take (i := 7) (v := ?vca7) rfl (by kernel_rfl) (by kernel_rfl) (by kernel_rfl) (fun _ _ _ h => h) (Or.inl ⟨by rfl, ?hyca7⟩) (by assumption) ?restca7
          case hyca7 => (intro w hSw; (try dsimp only at hSw); go_simp; first | done | (with_reducible rfl))
          try simp only [Act.put, List.getElem_toArray, List.getElem_cons_zero, List.getElem_cons_succ, List.setIfInBounds_toArray, List.set_cons_zero, List.set_cons_succ]
          refine wpAnyH_take (i := 8) (v := ?vca8) rfl (by kernel_rfl) (by kernel_rfl) (by kernel_rfl) (fun _ _ _ h => h) (Or.inl ⟨by rfl, ?hyca8⟩) (by assumption) ?restca8
          case hyca8 => (intro w hSw; (try dsimp only at hSw); go_simp; first | done | (with_reducible rfl))
          try simp only [Act.put, List.getElem_toArray, List.getElem_cons_zero, List.getElem_cons_succ, List.setIfInBounds_toArray, List.set_cons_zero, List.set_cons_succ]
          refine wpAnyH_take (i := 9) (v := ?vca9) rfl (by kernel_rfl) (by kernel_rfl) (by kernel_rfl) (fun _ _ _ h => h) (Or.inl ⟨by rfl, ?hyca9⟩) (by assumption) ?restca9
          case hyca9 => (intro w hSw; (try dsimp only at hSw); go_simp; first | done | (with_reducible rfl))
          try simp only [Act.put, List.getElem_toArray, List.getElem_cons_zero, List.getElem_cons_succ, List.setIfInBounds_toArray, List.set_cons_zero, List.set_cons_succ]
          refine wpAnyH_take (i := 10) (v := ?vca10) rfl (by kernel_rfl) (by kernel_rfl) (by kernel_rfl) (fun _ _ _ h => h) (Or.inl ⟨by rfl, ?hyca10⟩) (by assumption) ?restca10
          case hyca10 => (intro w hSw; (try dsimp only at hSw); go_simp; first | done | (with_reducible rfl))
          try simp only [Act.put, List.getElem_toArray, List.getElem_cons_zero, List.getElem_cons_succ, List.setIfInBounds_toArray, List.set_cons_zero, List.set_cons_succ]
          refine wpAnyH_ready (rs := [11]) (by kernel_rfl) (by simp) ?_
          refine AllReadyH.cons rfl (fun K hK => ?_) AllReadyH.nil
          go_simp
          refine hK.out _ _ (⟨four_of (HBX2.out.alloc _), HOC.out _ (HBW2.out.alloc HBW2.out.size _)⟩) (fun _ => ?_)
          clear hK K
          try simp only [Act.put, List.getElem_toArray, List.getElem_cons_zero, List.getElem_cons_succ, List.setIfInBounds_toArray, List.set_cons_zero, List.set_cons_succ]
          obtain ⟨g12, hg12⟩ : ∃ g, g = Wx.heap.size := ⟨_, rfl⟩
          rw [← hg12]
          obtain ⟨We, hWe⟩ : ∃ We, We = Wx.alloc (.cells #[.slice none 0 0, .slice none 0 0, .int .i64 0, .bool false] 53) := ⟨_, rfl⟩
          rw [← hWe]
          exact tail g12 d2 v2 We (by subst hWe hg12; exact HCA.out)
        · go_simp
          refine hK.out _ _ (⟨four_of (HBXX.out.drew.alloc _), HOC.out _ (HBW.out.drew.alloc HBW.out.size _)⟩) (fun _ => ?_)
          clear hK K
          try simp only [Act.put, List.getElem_toArray, List.getElem_cons_zero, List.getElem_cons_succ, List.setIfInBounds_toArray, List.set_cons_zero, List.set_cons_succ]
          refine wpAnyH_ready (rs := [6]) (by kernel_rfl) (by simp) ?_
          refine AllReadyH.cons rfl (fun K hK => ?_) AllReadyH.nil
          go_simp
          refine (HST.out _ (((Below.refl wr.heap.size wr).alloc (Nat.le_refl _) (.cells #[.slice none 0 0, .slice none 0 0, .int .i64 0, .bool false] 53)).drew)).mono ?_
          rintro e Wx ⟨d2, F2, v2, rfl, hd2, hr2, ht2, hF2⟩
          have HBX2 := hide ((HBXX.out.alloc _).drew.touch ht2 HT.out.out)
          have HBW2 := hide (Below.touch ((HBW.out.alloc HBW.out.size _).drew) ht2 HT.out.lo (by exact Nat.le_trans HBW.out.size (by show wr.heap.size ≤ (wr.alloc _).heap.size; rw [World.size_alloc]; exact Nat.le_succ _)))
          have HCA := hide (ca_before HT.out.disk.lt hd2 hr2 ht2 hF2)
          clear hd2 hr2 ht2 hF2
          refine hK.out _ _ (⟨four_of HBX2.out, HOC.out _ HBW2.out⟩) (fun _ => ?_)
          clear hK K
          try simp only [Act.put, List.getElem_toArray, List.getElem_cons_zero, List.getElem_cons_succ, List.setIfInBounds_toArray, List.set_cons_zero, List.set_cons_succ]
          refine wpAnyH_take (i := 7) (v := ?vcb7) rfl (by kernel_rfl) (by kernel_rfl) (by kernel_rfl) (fun _ _ _ h => h) (Or.inl ⟨by rfl, ?hycb7⟩) (by assumption) ?restcb7
          case hycb7 => (intro w hSw; (try dsimp only at hSw); go_simp; first | done | (with_reducible rfl))
          try simp only [Act.put, List.getElem_toArray, List.getElem_cons_zero, List.getElem_cons_succ, List.setIfInBounds_toArray, List.set_cons_zero, List.set_cons_succ]
          refine wpAnyH_take (i := 8) (v := ?vcb8) rfl (by kernel_rfl) (by kernel_rfl) (by kernel_rfl) (fun _ _ _ h => h) (Or.inl ⟨by rfl, ?hycb8⟩) (by assumption) ?restcb8
          case hycb8 => (intro w hSw; (try dsimp only at hSw); go_simp; first | done | (with_reducible rfl))
          try simp only [Act.put, List.getElem_toArray, List.getElem_cons_zero, List.getElem_cons_succ, List.setIfInBounds_toArray, List.set_cons_zero, List.set_cons_succ]
          refine wpAnyH_take (i := 9) (v := ?vcb9) rfl (by kernel_rfl) (by kernel_rfl) (by kernel_rfl) (fun _ _ _ h => h) (Or.inl ⟨by rfl, ?hycb9⟩) (by assumption) ?restcb9
          case hycb9 => (intro w hSw; (try dsimp only at hSw); go_simp; first | done | (with_reducible rfl))
          try simp only [Act.put, List.getElem_toArray, List.getElem_cons_zero, List.getElem_cons_succ, List.setIfInBounds_toArray, List.set_cons_zero, List.set_cons_succ]
          refine wpAnyH_take (i := 10) (v := ?vcb10) rfl (by kernel_rfl) (by kernel_rfl) (by kernel_rfl) (fun _ _ _ h => h) (Or.inl ⟨by rfl, ?hycb10⟩) (by assumption) ?restcb10
          case hycb10 => (intro w hSw; (try dsimp only at hSw); go_simp; first | done | (with_reducible rfl))
          try simp only [Act.put, List.getElem_toArray, List.getElem_cons_zero, List.getElem_cons_succ, List.setIfInBounds_toArray, List.set_cons_zero, List.set_cons_succ]
          exact tail _ d2 v2 Wx HCA.out
      intro g12 d2 v2 Wt hI
      obtain ⟨⟨F2, hd2, hr2, ht2, hF2, hgF⟩, hb12, hlo⟩ := hI
      obtain ⟨A', n', c', B', m', b', vs', xs', rfl, hk'⟩ := hr2.form
      unfold rv
      have HD2 := hide hd2
      have HK2 := hide hk'
      have HT2 := hide ht2
      have HF2 := hide hF2
      have HGF := hide hgF
      have HB12 := hide hb12
      have HLO := hide hlo
      have HOCW : Hid (Below W.heap.size W Wt) := hide (Below.touch HBW.out ht2 HT.out.lo HBW.out.size)
      have HBXT := hide (HBXX.out.touch ht2 HT.out.out)
      generalize hz1 : (dStep E x).fuse = z1
      generalize hfl1 : (dStep E x).failed = fl1
      have HZ1 := hide hz1
      have HFL1 := hide hfl1
      have hng : g12 ≠ g := by have := HBXX.out.lt; omega
      have HNG := hide hng
      clear hd2 hr2 hk' ht2 hF2 hgF hb12 hlo hz1 hfl1 hS0 hng
      have hSt : (fun w' => (w'.cell? ⟨g, 0, none⟩ = some (.slice dA dn dc) ∧ w'.cell? ⟨g, 1, none⟩ = some (.slice pA pn pc2) ∧ w'.cell? ⟨g, 2, none⟩ = some (.int .i64 z) ∧ w'.cell? ⟨g, 3, none⟩ = some (.bool fl)) ∧ (w'.cell? ⟨gl, ol + i * 6, none⟩ = some (.int .i64 x.kind) ∧ w'.cell? ⟨gl, ol + i * 6 + 1, none⟩ = some (.int .i64 x.page) ∧ w'.cell? ⟨gl, ol + i * 6 + 2, none⟩ = some (.int .i64 x.n) ∧ w'.cell? ⟨gl, ol + i * 6 + 3, none⟩ = some (.int .u8 x.fill) ∧ w'.cell? ⟨gl, ol + i * 6 + 4, none⟩ = some (.int .u8 x.short) ∧ w'.cell? ⟨gl, ol + i * 6 + 5, none⟩ = some (.slice As ms cs))) Wt := ⟨four_of HBXT.out, HOC.out _ HOCW.out⟩
      refine wpAnyH_take (i := 12) (v := ?vc12) rfl (by kernel_rfl) (by kernel_rfl) (by kernel_rfl) (fun _ _ _ h => h) (Or.inl ⟨by rfl, ?hyc12⟩) (by assumption) ?restc12
      case hyc12 => (intro w hSw; (try dsimp only at hSw); go_simp; first | done | (with_reducible rfl))
      try simp only [Act.put, List.getElem_toArray, List.getElem_cons_zero, List.getElem_cons_succ, List.setIfInBounds_toArray, List.set_cons_zero, List.set_cons_succ]
      refine wpAnyH_ready (rs := [13]) (by kernel_rfl) (by simp) ?_
      refine AllReadyH.cons rfl (fun K hK => ?_) AllReadyH.nil
      refine step_store_blk rfl 53 (.tmp 12) (.tmp 60) rfl g12 53 #[.slice none 0 0, .slice none 0 0, .int .i64 0, .bool false] #[.slice A' n' c', .slice B' m' b', .int .i64 z1, .bool fl1] rfl rfl HB12.out rfl size_disk (one_rv _ _ _ _ _ _ _ _) ?_
      intro W3 hx3 ht3 hs3
      have HX3 := hide hx3
      have HT3 := hide ht3
      have HBX3 := hide (HBXT.out.touch ht3 (by simp; exact fun e => HNG.out e.symm))
      have HOC3 : Hid (Below W.heap.size W W3) := hide (Below.touch HOCW.out ht3 (by simp; have := HLO.out; have := HBW.out.size; omega) HOCW.out.size)
      clear hx3 ht3 hs3
      refine hK.out _ _ (⟨four_of HBX3.out, HOC.out _ HOC3.out⟩) (fun _ => ?_)
      clear hK K
      try simp only [Act.put, List.getElem_toArray, List.getElem_cons_zero, List.getElem_cons_succ, List.setIfInBounds_toArray, List.set_cons_zero, List.set_cons_succ]
      refine wpAnyH_take (i := 14) (v := ?vc14) rfl (by kernel_rfl) (by kernel_rfl) (by kernel_rfl) (fun _ _ _ h => h) (Or.inl ⟨by rfl, ?hyc14⟩) (by assumption) ?restc14
      case hyc14 => (intro w hSw; (try dsimp only at hSw); go_simp; first | done | (with_reducible rfl))
      try simp only [Act.put, List.getElem_toArray, List.getElem_cons_zero, List.getElem_cons_succ, List.setIfInBounds_toArray, List.set_cons_zero, List.set_cons_succ]
      refine wpAnyH_done (by kernel_rfl) ?_ _
      go_wp2_with fail
      refine wp_region_held_drew (S := fun w' => (w'.cell? ⟨g12, 0, none⟩ = some (.slice A' n' c') ∧ w'.cell? ⟨g12, 1, none⟩ = some (.slice B' m' b') ∧ w'.cell? ⟨g12, 2, none⟩ = some (.int .i64 z1) ∧ w'.cell? ⟨g12, 3, none⟩ = some (.bool fl1))) (by kernel_rfl) (four_of HX3.out.drew) (fun hS0 => ?_)
      refine wpAnyH_take (i := 0) (v := ?vcx0) rfl (by kernel_rfl) (by kernel_rfl) (by kernel_rfl) (fun _ _ _ h => h) (Or.inl ⟨by rfl, ?hycx0⟩) (by assumption) ?restcx0
      case hycx0 => (intro w hSw; (try dsimp only at hSw); go_simp; first | done | (with_reducible rfl))
      try simp only [Act.put, List.getElem_toArray, List.getElem_cons_zero, List.getElem_cons_succ, List.setIfInBounds_toArray, List.set_cons_zero, List.set_cons_succ]
      refine wpAnyH_take (i := 1) (v := ?vcx1) rfl (by kernel_rfl) (by kernel_rfl) (by kernel_rfl) (fun _ _ _ h => h) (Or.inl ⟨by rfl, ?hycx1⟩) (by assumption) ?restcx1
      case hycx1 => (intro w hSw; (try dsimp only at hSw); go_simp; first | done | (with_reducible rfl))
      try simp only [Act.put, List.getElem_toArray, List.getElem_cons_zero, List.getElem_cons_succ, List.setIfInBounds_toArray, List.set_cons_zero, List.set_cons_succ]
      refine wpAnyH_take (i := 2) (v := ?vcx2) rfl (by kernel_rfl) (by kernel_rfl) (by kernel_rfl) (fun _ _ _ h => h) (Or.inl ⟨by rfl, ?hycx2⟩) (by assumption) ?restcx2
      case hycx2 => (intro w hSw; (try dsimp only at hSw); go_simp; first | done | (with_reducible rfl))
      try simp only [Act.put, List.getElem_toArray, List.getElem_cons_zero, List.getElem_cons_succ, List.setIfInBounds_toArray, List.set_cons_zero, List.set_cons_succ]
      refine wpAnyH_ready (rs := [3]) (by kernel_rfl) (by simp) ?_
      refine AllReadyH.cons rfl (fun K hK => ?_) AllReadyH.nil
      refine step_store_blk rfl 53 (.tmp 8) (.tmp 63) rfl g 53 #[.slice dA dn dc, .slice pA pn pc2, .int .i64 z, .bool fl] #[.slice A' n' c', .slice B' m' b', .int .i64 z1, .bool fl1] rfl rfl HBX3.out.drew rfl size_disk (one_rv _ _ _ _ _ _ _ _) ?_
      intro W5 hx5 ht5 hs5
      have HX5 := hide hx5
      have HT5 := hide ht5
      have HX6 := hide (HX3.out.drew.touch ht5 (by simp; exact HNG.out))
      clear hx5 ht5 hs5
      refine hK.out _ _ (four_of HX6.out) (fun hS3 => ?_)
      clear hK K
      try simp only [Act.put, List.getElem_toArray, List.getElem_cons_zero, List.getElem_cons_succ, List.setIfInBounds_toArray, List.set_cons_zero, List.set_cons_succ]
      refine wpAnyH_done (by kernel_rfl) ?_ _
      have hb5 := HX5.out
      rw [← HZ1.out, ← HFL1.out] at hb5
      have HN := hide ((HT.out.next (HD2.out.touch HT3.out (by intro j hj hm; simp at hm; subst hm; exact HGF.out hj)) ((HK2.out.away HB12.out).touch (F' := F2) (HT3.out.mono (fun s hs => .inl (by simp at hs; subst hs; simp))) (fun j hj => .inl (List.mem_cons.2 (.inr hj)))) (HT2.out.next HT3.out (fun t ht => .inr (by simp at ht; subst ht; exact HLO.out))) HF2.out (((Touch.refl [g] W3).drew).trans HT5.out) hb5))
      have hdl := dStep_len HT.out.disk.ok x
      have HSM := hide (same_c d2 F2 (rv (.slice A' n' c') (.slice B' m' b') (dStep E x)) (dStep E x) W5 HN.out.disk HN.out.rf (by have := HPD.out.1; omega) (by have := HPD.out.2; omega))
      unfold rv at HSM
      rw [HZ1.out, HFL1.out] at HSM
      obtain ⟨k0, k1, k2, k3, _⟩ := blk4 HX5.out
      clear hb5 hdl
      go_wp2_with fail
      refine HSM.out.mono ?_
      rintro e W6 ⟨rfl, hb6⟩
      have HN6' := hide (HN.out.step hb6)
      clear hb6 HSM k0 k1 k2 k3
      go_wp2_with fail
      go_roundw
      case rel =>
        have hn := HN6'.out
        rw [HNX.out] at hn
        exact ⟨i + 1, d2, F2, _, _, rfl, by go_num, by have := HLT.out; have := hnl.out; omega, hn⟩
      case measure => have := HLT.out; simp [intOf]; omega
    · obtain rfl : i = nl := by have := hnl.out; omega
      clear hlt ht hi
      go_wp2_with fail
      go_ret
      exact ⟨rfl, HT.out.b⟩
end Go.Proofs.Ytlpnichgfhgdmaa
