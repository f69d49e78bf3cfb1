/- DiskSurvives: all survivors, no survivors. -/
import Derived.Test.YtlpnichgfhgdmaaLast
namespace Go.Proofs.Ytlpnichgfhgdmaa
open Go.ChangeShapes Go.WideShapes Go.ChangeAt Go.RowKit
set_option linter.unusedVariables false
set_option linter.unusedSimpArgs false

theorem aside_more {w : World} {F L : List Nat} {v : Value} {l : List UInt8} (h : Aside w F v l) (hL : ∀ j ∈ L, ∀ k, v.ownBlock = some k → k ≠ j) : Aside w (L ++ F) v l :=
  ⟨h.1, fun k hk => ⟨(h.2 k hk).1, fun hm => by
    rcases List.mem_append.1 hm with e | e
    · exact hL k e k hk rfl
    · exact (h.2 k hk).2 e⟩⟩
/-- Between two rounds of DiskSurvives. -/
def SvR (W : World) (d : Nat) (ps : List (List UInt8)) (vo : Value) (lo : List UInt8) (n : Nat) (v7 v8 : Value) (w : World) : Prop :=
  ∃ (i : Nat) (F : List Nat) (D : DS) (va : Value) (s : List Int), v7 = va ∧ v8 = .int .i64 i ∧ i ≤ n ∧ Lw W d F D w ∧ Cl D ps i ∧ Aside w (va.ownBlock.toList ++ F) vo lo ∧ (∀ j, va.ownBlock = some j → W.heap.size ≤ j) ∧ Row w 3 1 va s.length (s.map (.int .i64 ·)) ∧ Apart w F va ∧ D.pend.length = s.length ∧ (∀ x ∈ s, 128 ≤ x ∧ x ≤ 1000)

set_option maxRecDepth 100000 in
set_option maxHeartbeats 8000000 in
theorem walkDiskSurvives (W : World) (v0 : Value) (l0 : List OpV) (h0 : OpsIn W v0 l0) (v1 : Value) (l1 : List OpV) (h1 : OpsIn W v1 l1) :
    Calls Try.prog 6 #[v0, v1] W fun e w' => e = .returned (.bool true) ∧ Below W.heap.size W w' := by
  obtain ⟨A0, n0, c0, rfl, hn0, _, _⟩ := h0.form
  obtain ⟨A1, n1, c1, rfl, hn1, hnc1, hcm1⟩ := h1.form
  have H0 := hide h0
  have H1 := hide h1
  have HF0 := hide (fun (X : World) (k : Below W.heap.size W X) => few_c _ l0 20 X (h0.step k))
  have HF1 := hide (fun (X : World) (k : Below W.heap.size W X) => few_c _ l1 20 X (h1.step k))
  by_cases hf0 : fewB l0 20 = true
  case neg =>
    have hf : fewB l0 20 = false := by simpa using hf0
    rw [hf] at HF0
    clear h0 h1 hf hf0
    go_enter Try.func6, Try.ntmps6
    go_wp2_with fail
    refine (awake_c _).mono ?_
    rintro e w1 ⟨rfl, hb1⟩
    go_wp2_with fail
    refine (HF0.out w1 hb1).mono ?_
    rintro e w2 ⟨rfl, rfl⟩
    go_wp2_with fail
    go_ret
    exact ⟨rfl, hb1⟩
  by_cases hf1 : fewB l1 20 = true
  case neg =>
    have hf : fewB l1 20 = false := by simpa using hf1
    rw [hf] at HF1
    rw [hf0] at HF0
    clear h0 h1 hf hf0 hf1
    go_enter Try.func6, Try.ntmps6
    go_wp2_with fail
    refine (awake_c _).mono ?_
    rintro e w1 ⟨rfl, hb1⟩
    go_wp2_with fail
    refine (HF0.out w1 hb1).mono ?_
    rintro e w2 ⟨rfl, rfl⟩
    go_wp2_with fail
    refine (HF1.out w1 hb1).mono ?_
    rintro e w2 ⟨rfl, rfl⟩
    go_wp2_with fail
    go_ret
    exact ⟨rfl, hb1⟩
  have hl0 := fewB_len (k := 20) hf0
  have hl1 := fewB_len (k := 20) hf1
  rw [hf0] at HF0
  rw [hf1] at HF1
  obtain ⟨_, hrp, hrq⟩ := dRun_len (D := dNew 6) l0 (dNew_ok 6) h0.all
  have hrp6 : (dRun (dNew 6) l0).pages.length = 6 := hrp.trans (by simp [dNew])
  have hrq20 : (dRun (dNew 6) l0).pend.length ≤ 20 := Nat.le_trans hrq (by simpa [dNew] using hl0)
  have HRU := hide (fun (X : World) (k : Below W.heap.size W X) => run_c _ l0 X (h0.step k) (by omega))
  have HNL : Hid (n1 ≤ 20) := hide (by rw [hn1.out]; exact hl1)
  generalize dRun (dNew 6) l0 = D at *
  have HRP := hide hrp6
  have HRQ := hide hrq20
  clear h0 h1 hf0 hf1 hl0 hl1 hrp hrq hrp6 hrq20
  go_enter Try.func6, Try.ntmps6
  go_wp2_with fail
  refine (awake_c _).mono ?_
  rintro e w1 ⟨rfl, hb1⟩
  have HB1 := hide hb1
  clear hb1
  go_wp2_with fail
  refine (HF0.out w1 HB1.out).mono ?_
  rintro e w2 ⟨rfl, rfl⟩
  go_wp2_with fail
  refine (HF1.out w1 HB1.out).mono ?_
  rintro e w2 ⟨rfl, rfl⟩
  go_wp2_with fail
  refine (HRU.out w1 HB1.out).mono ?_
  rintro e w2 ⟨d, F, rfl, hd, hlo, hb2⟩
  have HL : Hid (Lw W d F D w2) := hide ⟨hd, fun j hj => Nat.le_trans HB1.out.size (hlo j hj), HB1.out.trans (hb2.mono HB1.out.size)⟩
  clear hd hlo hb2 HF0 HF1 HRU
  go_wp2_with fail
  refine (crash_c d F D _ [] w2 HL.out.disk (Is.nil _) (fun j hj => by cases hj)).mono ?_
  rintro e w3 hdo
  obtain ⟨rfl, F3, hl3, _, _⟩ := HL.out.does hdo
  have HL3 := hide hl3
  have HC3 := hide (cl_crash D [])
  have HP3 : Hid ((dCrash D []).pages.length = 6) := hide ((dCrash_len HL.out.ok []).trans HRP.out)
  clear hdo hl3 HL
  generalize dCrash D [] = D3 at *
  go_wp2_with fail
  refine (contents_l d F3 D3 w3 HL3.out.disk HC3.out.failed (by rw [HP3.out]; decide)).mono ?_
  rintro e w6 ⟨vw, rfl, how, hb6⟩
  have HA6 : Hid (Aside w6 F3 vw (dContents D3)) := hide (Aside.new HL3.out.disk how)
  have HL6 := hide (HL3.out.step hb6)
  clear how hb6
  go_wp2_with fail
  go_loopw [7, 8] (fun v7 v8 wr => SvR W d D3.pages vw (dContents D3) n1 v7 v8 wr) (fun _ v8 _ => n1 - (intOf v8).toNat)
  case atStart =>
    have kb := below_first w6 (.cells #[] 3)
    exact ⟨0, F3, D3, _, [], rfl, rfl, Nat.zero_le _, HL6.out.step kb, HC3.out, aside_more (HA6.out.step kb) (fun j hj => by have e : w6.heap.size = j := (by injection Option.mem_toList.1 hj); subst e; intro k hk; have := (HA6.out.2 k hk).1; omega), (fun j hj => by have e : w6.heap.size = j := (by injection hj); subst e; exact HL6.out.b.size), ownsRow_low (ownsRow_empty w6 w6.heap.size 3 1 (Nat.le_refl _)), Apart.new HL6.out.disk.lt (fun j hj => by have e : w6.heap.size = j := (by injection hj); subst e; rw [World.size_alloc]; omega), by have := HC3.out.pend; simp; exact List.eq_nil_of_length_eq_zero (Nat.le_zero.1 this), fun x hx => by cases hx⟩
  case round =>
    obtain ⟨i, F1, D1, va, s, rfl, rfl, hi, hlw, hcl, has, hvl, hrow, hap, hpd, hsb⟩ := hrel
    obtain ⟨k7, hk7⟩ : ∃ k7, k7 = s.length := ⟨_, rfl⟩
    rw [← hk7] at hrow
    obtain ⟨A7, c7, rfl, hc7, hm7⟩ := hrow.form
    have HLW := hide hlw
    have HCL := hide hcl
    have HAS := hide has
    have HI := hide hi
    have HROW := hide hrow
    have HVL := hide hvl
    have HAP := hide hap
    have HPN := hide hpd
    have HSB := hide hsb
    have HK7 := hide hk7
    by_cases hlt : i < n1
    · have hil : i < l1.length := by rw [← hn1.out]; exact hlt
      obtain ⟨gl, ol, rfl, hgl, hok, _⟩ := H1.out.at_ i hil
      have hxs : l1[i]? = some l1[i] := List.getElem?_eq_getElem hil
      generalize l1[i] = x at *
      obtain ⟨As, ms, cs, hsv, _, _, _⟩ := hok.surv.formN
      have HDA := hide (fun (X : World) (k : Below W.heap.size W X) => data_c x X (hok.step k))
      unfold OpV.val at HDA
      rw [hsv] at HDA
      have HOC : Hid (∀ X : World, Below W.heap.size W X → X.cell? ⟨gl, ol + i * 6, none⟩ = some (.int .i64 x.kind) ∧ X.cell? ⟨gl, ol + i * 6 + 1, none⟩ = some (.int .i64 x.page) ∧ X.cell? ⟨gl, ol + i * 6 + 2, none⟩ = some (.int .i64 x.n) ∧ X.cell? ⟨gl, ol + i * 6 + 3, none⟩ = some (.int .u8 x.fill) ∧ X.cell? ⟨gl, ol + i * 6 + 4, none⟩ = some (.int .u8 x.short) ∧ X.cell? ⟨gl, ol + i * 6 + 5, none⟩ = some (.slice As ms cs)) := hide (fun X k => op_cells H1.out hil x hxs hsv (fun a ha => k.cell (p := a) (by rw [ha]; exact hgl)))
      have HWR := hide (fun (X : World) (vd : Value) (hX : Disk X d F1 D1) (hvd : Bs X vd (dataOf x)) (hF : ∀ j, vd.ownBlock = some j → j ∉ F1 ∧ j < X.heap.size) => write_c d F1 D1 x.page vd (dataOf x) X hX hvd (fun _ => hF) (by have h1 := hcl.pend; have h2 := HNL.out; omega))
      have hki : (i : Int) < (n1 : Int) := by omega
      have hi20 : (i : Int) ≤ 20 := by have := HNL.out; omega
      have HLT := hide hlt
      have HCW := hide (cl_write hcl x.page (dataOf x))
      by_cases hk : x.kind = 0
      · have hk0 : (x.kind == 0) = true := by simpa using hk
        by_cases hz : (dWrite D1 x.page (dataOf x)).2 = 0
        · have hpe : (dWrite D1 x.page (dataOf x)).1.pend.length = D1.pend.length + 1 := by
            obtain ⟨_, _, _, _, e⟩ := dWrite_zero D1 x.page (dataOf x) hz
            rw [e]
            show ((dBurn D1).1.pend ++ [_]).length = _
            rw [List.length_append, (dBurn_pages D1).2]; rfl
          rw [hz] at HWR
          have HPE := hide hpe
          obtain ⟨i0, hi0, hz0, hz1, hz2⟩ := info_parts info_int
          generalize (dWrite D1 x.page (dataOf x)).1 = D2 at *
          clear hz hpe hk hil hok hxs hsv hgl hlt hlw hcl has hrow hap hpd hsb hk7 hvl
          go_wp2_with fail
          refine wp_region_held_drew (S := fun w' => w'.cell? ⟨gl, ol + i * 6, none⟩ = some (.int .i64 x.kind) ∧ w'.cell? ⟨gl, ol + i * 6 + 1, none⟩ = some (.int .i64 x.page) ∧ w'.cell? ⟨gl, ol + i * 6 + 2, none⟩ = some (.int .i64 x.n) ∧ w'.cell? ⟨gl, ol + i * 6 + 3, none⟩ = some (.int .u8 x.fill) ∧ w'.cell? ⟨gl, ol + i * 6 + 4, none⟩ = some (.int .u8 x.short) ∧ w'.cell? ⟨gl, ol + i * 6 + 5, none⟩ = some (.slice As ms cs)) (by kernel_rfl) (HOC.out _ HLW.out.b.drew) (fun hS0 => ?_)
          refine wpAnyH_take (i := 0) (v := ?vsa0) rfl (by kernel_rfl) (by kernel_rfl) (by kernel_rfl) (fun _ _ _ h => h) (Or.inl ⟨by rfl, ?hysa0⟩) (by assumption) ?restsa0
          case hysa0 => (intro w hSw; (try dsimp only at hSw); go_simp; first | done | (with_reducible rfl))
          try simp only [Act.put, List.getElem_toArray, List.getElem_cons_zero, List.getElem_cons_succ, List.setIfInBounds_toArray, List.set_cons_zero, List.set_cons_succ]
          refine wpAnyH_take (i := 1) (v := ?vsa1) rfl (by kernel_rfl) (by kernel_rfl) (by kernel_rfl) (fun _ _ _ h => h) (Or.inl ⟨by rfl, ?hysa1⟩) (by assumption) ?restsa1
          case hysa1 => (intro w hSw; (try dsimp only at hSw); go_simp; first | done | (with_reducible rfl))
          try simp only [Act.put, List.getElem_toArray, List.getElem_cons_zero, List.getElem_cons_succ, List.setIfInBounds_toArray, List.set_cons_zero, List.set_cons_succ]
          refine wpAnyH_take (i := 2) (v := ?vsa2) rfl (by kernel_rfl) (by kernel_rfl) (by kernel_rfl) (fun _ _ _ h => h) (Or.inl ⟨by rfl, ?hysa2⟩) (by assumption) ?restsa2
          case hysa2 => (intro w hSw; (try dsimp only at hSw); go_simp; first | done | (with_reducible rfl))
          try simp only [Act.put, List.getElem_toArray, List.getElem_cons_zero, List.getElem_cons_succ, List.setIfInBounds_toArray, List.set_cons_zero, List.set_cons_succ]
          refine wpAnyH_take (i := 3) (v := ?vsa3) rfl (by kernel_rfl) (by kernel_rfl) (by kernel_rfl) (fun _ _ _ h => h) (Or.inl ⟨by rfl, ?hysa3⟩) (by assumption) ?restsa3
          case hysa3 => (intro w hSw; (try dsimp only at hSw); go_simp; first | done | (with_reducible rfl))
          try simp only [Act.put, List.getElem_toArray, List.getElem_cons_zero, List.getElem_cons_succ, List.setIfInBounds_toArray, List.set_cons_zero, List.set_cons_succ]
          refine wpAnyH_take (i := 4) (v := ?vsa4) rfl (by kernel_rfl) (by kernel_rfl) (by kernel_rfl) (fun _ _ _ h => h) (Or.inl ⟨by rfl, ?hysa4⟩) (by assumption) ?restsa4
          case hysa4 => (intro w hSw; (try dsimp only at hSw); go_simp; first | done | (with_reducible rfl))
          try simp only [Act.put, List.getElem_toArray, List.getElem_cons_zero, List.getElem_cons_succ, List.setIfInBounds_toArray, List.set_cons_zero, List.set_cons_succ]
          refine wpAnyH_take (i := 5) (v := ?vsa5) rfl (by kernel_rfl) (by kernel_rfl) (by kernel_rfl) (fun _ _ _ h => h) (Or.inl ⟨by rfl, ?hysa5⟩) (by assumption) ?restsa5
          case hysa5 => (intro w hSw; (try dsimp only at hSw); go_simp; first | done | (with_reducible rfl))
          try simp only [Act.put, List.getElem_toArray, List.getElem_cons_zero, List.getElem_cons_succ, List.setIfInBounds_toArray, List.set_cons_zero, List.set_cons_succ]
          refine wpAnyH_take (i := 6) (v := ?vsa6) rfl (by kernel_rfl) (by kernel_rfl) (by kernel_rfl) (fun _ _ _ h => h) (Or.inl ⟨by rfl, ?hysa6⟩) (by assumption) ?restsa6
          case hysa6 => (intro w hSw; (try dsimp only at hSw); go_simp; first | done | (with_reducible rfl))
          try simp only [Act.put, List.getElem_toArray, List.getElem_cons_zero, List.getElem_cons_succ, List.setIfInBounds_toArray, List.set_cons_zero, List.set_cons_succ]
          refine wpAnyH_take (i := 7) (v := ?vsa7) rfl (by kernel_rfl) (by kernel_rfl) (by kernel_rfl) (fun _ _ _ h => h) (Or.inl ⟨by rfl, ?hysa7⟩) (by assumption) ?restsa7
          case hysa7 => (intro w hSw; (try dsimp only at hSw); go_simp; first | done | (with_reducible rfl))
          try simp only [Act.put, List.getElem_toArray, List.getElem_cons_zero, List.getElem_cons_succ, List.setIfInBounds_toArray, List.set_cons_zero, List.set_cons_succ]
          refine wpAnyH_take (i := 8) (v := ?vsa8) rfl (by kernel_rfl) (by kernel_rfl) (by kernel_rfl) (fun _ _ _ h => h) (Or.inl ⟨by rfl, ?hysa8⟩) (by assumption) ?restsa8
          case hysa8 => (intro w hSw; (try dsimp only at hSw); go_simp; first | done | (with_reducible rfl))
          try simp only [Act.put, List.getElem_toArray, List.getElem_cons_zero, List.getElem_cons_succ, List.setIfInBounds_toArray, List.set_cons_zero, List.set_cons_succ]
          refine wpAnyH_take (i := 9) (v := ?vsa9) rfl (by kernel_rfl) (by kernel_rfl) (by kernel_rfl) (fun _ _ _ h => h) (Or.inl ⟨by rfl, ?hysa9⟩) (by assumption) ?restsa9
          case hysa9 => (intro w hSw; (try dsimp only at hSw); go_simp; first | done | (with_reducible rfl))
          try simp only [Act.put, List.getElem_toArray, List.getElem_cons_zero, List.getElem_cons_succ, List.setIfInBounds_toArray, List.set_cons_zero, List.set_cons_succ]
          refine wpAnyH_take (i := 10) (v := ?vsa10) rfl (by kernel_rfl) (by kernel_rfl) (by kernel_rfl) (fun _ _ _ h => h) (Or.inl ⟨by rfl, ?hysa10⟩) (by assumption) ?restsa10
          case hysa10 => (intro w hSw; (try dsimp only at hSw); go_simp; first | done | (with_reducible rfl))
          try simp only [Act.put, List.getElem_toArray, List.getElem_cons_zero, List.getElem_cons_succ, List.setIfInBounds_toArray, List.set_cons_zero, List.set_cons_succ]
          refine wpAnyH_take (i := 11) (v := ?vsa11) rfl (by kernel_rfl) (by kernel_rfl) (by kernel_rfl) (fun _ _ _ h => h) (Or.inl ⟨by rfl, ?hysa11⟩) (by assumption) ?restsa11
          case hysa11 => (intro w hSw; (try dsimp only at hSw); go_simp; first | done | (with_reducible rfl))
          try simp only [Act.put, List.getElem_toArray, List.getElem_cons_zero, List.getElem_cons_succ, List.setIfInBounds_toArray, List.set_cons_zero, List.set_cons_succ]
          refine wpAnyH_take (i := 12) (v := ?vsa12) rfl (by kernel_rfl) (by kernel_rfl) (by kernel_rfl) (fun _ _ _ h => h) (Or.inl ⟨by rfl, ?hysa12⟩) (by assumption) ?restsa12
          case hysa12 => (intro w hSw; (try dsimp only at hSw); go_simp; first | done | (with_reducible rfl))
          try simp only [Act.put, List.getElem_toArray, List.getElem_cons_zero, List.getElem_cons_succ, List.setIfInBounds_toArray, List.set_cons_zero, List.set_cons_succ]
          refine wpAnyH_take (i := 13) (v := ?vsa13) rfl (by kernel_rfl) (by kernel_rfl) (by kernel_rfl) (fun _ _ _ h => h) (Or.inl ⟨by rfl, ?hysa13⟩) (by assumption) ?restsa13
          case hysa13 => (intro w hSw; (try dsimp only at hSw); go_simp; first | done | (with_reducible rfl))
          try simp only [Act.put, List.getElem_toArray, List.getElem_cons_zero, List.getElem_cons_succ, List.setIfInBounds_toArray, List.set_cons_zero, List.set_cons_succ]
          refine wpAnyH_take (i := 14) (v := ?vsa14) rfl (by kernel_rfl) (by kernel_rfl) (by kernel_rfl) (fun _ _ _ h => h) (Or.inl ⟨by rfl, ?hysa14⟩) (by assumption) ?restsa14
          case hysa14 => (intro w hSw; (try dsimp only at hSw); go_simp; first | done | (with_reducible rfl))
          try simp only [Act.put, List.getElem_toArray, List.getElem_cons_zero, List.getElem_cons_succ, List.setIfInBounds_toArray, List.set_cons_zero, List.set_cons_succ]
          refine wpAnyH_take (i := 15) (v := ?vsa15) rfl (by kernel_rfl) (by kernel_rfl) (by kernel_rfl) (fun _ _ _ h => h) (Or.inl ⟨by rfl, ?hysa15⟩) (by assumption) ?restsa15
          case hysa15 => (intro w hSw; (try dsimp only at hSw); go_simp; first | done | (with_reducible rfl))
          try simp only [Act.put, List.getElem_toArray, List.getElem_cons_zero, List.getElem_cons_succ, List.setIfInBounds_toArray, List.set_cons_zero, List.set_cons_succ]
          refine wpAnyH_take (i := 16) (v := ?vsa16) rfl (by kernel_rfl) (by kernel_rfl) (by kernel_rfl) (fun _ _ _ h => h) (Or.inl ⟨by rfl, ?hysa16⟩) (by assumption) ?restsa16
          case hysa16 => (intro w hSw; (try dsimp only at hSw); go_simp; first | done | (with_reducible rfl))
          try simp only [Act.put, List.getElem_toArray, List.getElem_cons_zero, List.getElem_cons_succ, List.setIfInBounds_toArray, List.set_cons_zero, List.set_cons_succ]
          refine wpAnyH_ready (rs := [17]) (by kernel_rfl) (by simp) ?_
          refine AllReadyH.cons rfl (fun K hK => ?_) AllReadyH.nil
          go_simp
          refine (HDA.out _ HLW.out.b.drew).mono ?_
          rintro e Wd ⟨vd, rfl, how, hbd⟩
          have HV := hide how
          have HLD := hide ((HLW.out.step (Below.refl _ _).drew).step hbd)
          have HAD := hide ((HAS.out.step (Below.refl _ _).drew).step hbd)
          have HRD := hide (HROW.out.touch (Touch.below ((Below.refl _ _).drew.trans hbd) []) (by simp))
          have HPD := hide (HAP.out.touch (Touch.below ((Below.refl _ _).drew.trans hbd) F1) (fun j hj => .inl hj))
          clear how hbd
          refine hK.out _ _ (HOC.out _ HLD.out.b) (fun hS17 => ?_)
          clear hK K
          try simp only [Act.put, List.getElem_toArray, List.getElem_cons_zero, List.getElem_cons_succ, List.setIfInBounds_toArray, List.set_cons_zero, List.set_cons_succ]
          refine wpAnyH_ready (rs := [18]) (by kernel_rfl) (by simp) ?_
          refine AllReadyH.cons rfl (fun K hK => ?_) AllReadyH.nil
          go_simp
          refine (HWR.out Wd vd HLD.out.disk HV.out.bs (fun j hj => by have h1 := HV.out.lt j hj; exact ⟨fun hm => by have h2 := HLW.out.disk.lt j hm; have h3 : wr.heap.size ≤ j := h1.1; omega, h1.2⟩)).mono ?_
          rintro e Wx hdo
          obtain ⟨rfl, F2, hl2, ht2, hF2⟩ := HLD.out.does hdo
          have HL2 := hide hl2
          have HA2 := hide (HAD.out.touch (F' := (Value.slice A7 k7 c7).ownBlock.toList ++ F2) (ht2.mono (fun s hs => .inl (List.mem_append.2 (.inr hs)))) (fun j hj => by rcases List.mem_append.1 hj with e | e; exact .inl (List.mem_append.2 (.inl e)); exact (hF2 j e).imp_left (fun e => List.mem_append.2 (.inr e))))
          have HR2 : Hid (Row Wx 3 1 (.slice A7 k7 c7) k7 (s.map (.int .i64 ·))) := hide (HRD.out.touch ht2 (fun j hj => (HPD.out j hj).2))
          have HP2 := hide (HPD.out.touch ht2 hF2)
          have HSZ2 : Hid (Below W.heap.size W Wx) := hide hl2.b
          clear hdo hl2 ht2 hF2
          refine hK.out _ _ (HOC.out _ HL2.out.b) (fun hS18 => ?_)
          clear hK K
          try simp only [Act.put, List.getElem_toArray, List.getElem_cons_zero, List.getElem_cons_succ, List.setIfInBounds_toArray, List.set_cons_zero, List.set_cons_succ]
          refine wpAnyH_take (i := 19) (v := ?vsa19) rfl (by kernel_rfl) (by kernel_rfl) (by kernel_rfl) (fun _ _ _ h => h) (Or.inl ⟨by rfl, ?hysa19⟩) (by assumption) ?restsa19
          case hysa19 => (intro w hSw; (try dsimp only at hSw); go_simp; first | done | (with_reducible rfl))
          try simp only [Act.put, List.getElem_toArray, List.getElem_cons_zero, List.getElem_cons_succ, List.setIfInBounds_toArray, List.set_cons_zero, List.set_cons_succ]
          refine wpAnyH_take (i := 20) (v := ?vsa20) rfl (by kernel_rfl) (by kernel_rfl) (by kernel_rfl) (fun _ _ _ h => h) (Or.inl ⟨by rfl, ?hysa20⟩) (by assumption) ?restsa20
          case hysa20 => (intro w hSw; (try dsimp only at hSw); go_simp; first | done | (with_reducible rfl))
          try simp only [Act.put, List.getElem_toArray, List.getElem_cons_zero, List.getElem_cons_succ, List.setIfInBounds_toArray, List.set_cons_zero, List.set_cons_succ]
          refine wpAnyH_done (by kernel_rfl) ?_ _
          go_wp2_with (at_builtin; refine wpList_append_row rfl (.tmp 55) (.tmp 58) 43 rfl 0 0 3 i0 _ 1 8 Try.underlying43 hi0 hz0 hz1 hz2 rfl (by decide) (v := .slice A7 k7 c7) (n := k7) (m := 1) rfl (World.ownsRow.alloc HR2.out _) rfl (row_lit Wx 0 3 1 1 [.int .i64 (128 + (i : Int))] rfl (by decide) (Nat.zero_le _)) (by intro u hu; simp at hu; subst hu; rfl) (by have h1 := HK7.out; have h2 := HPN.out; have h3 := HCL.out.pend; have h4 := HNL.out; have h5 := HLT.out; unfold maxLen; omega) (by have h1 := HK7.out; have h2 := HPN.out; have h3 := HCL.out.pend; have h4 := HNL.out; have h5 := HLT.out; omega) (Nat.zero_le _) ?_; intro v9 W9 how hg hat; obtain ⟨A9, c9, rfl, _⟩ := Row.form how; have HO9 := hide how; have HG9 := hide hg; have HA9 := hide hat; clear how hg hat)
          go_roundw
          case rel =>
            have kb := below_first Wx (.cells #[.int .i64 (128 + (i : Int))] 3)
            have kt : Touch (Value.slice A7 k7 c7).ownBlock.toList Wx W9 := (Touch.below kb _).next (Touch.grown HG9.out) (fun t ht => .inl ht)
            have hap2 := HP2.out
            have hnF : ∀ j ∈ F2, j ∉ (Value.slice A7 k7 c7).ownBlock.toList := fun j hj hm => (hap2 j (Option.mem_toList.1 hm)).2 hj
            have hlo : ∀ t ∈ (Value.slice A7 k7 c7).ownBlock.toList, W.heap.size ≤ t := fun t ht => HVL.out t (Option.mem_toList.1 ht)
            have hl9 : Lw W d F2 D2 W9 := ⟨HL2.out.disk.touch kt hnF, HL2.out.lo, Below.touch HL2.out.b kt hlo HL2.out.b.size⟩
            have hown9 : ∀ j, (Value.slice A9 (k7 + 1) c9).ownBlock = some j → (Value.slice A7 k7 c7).ownBlock = some j ∨ Wx.heap.size + 1 = j := fun j hj => by
              rcases HA9.out with e | e
              · exact .inl (by rw [← e]; exact hj)
              · rw [hj] at e
                have e2 : j = (Wx.alloc (.cells #[.int .i64 (128 + (i : Int))] 3)).heap.size := by injection e
                rw [World.size_alloc] at e2
                exact .inr e2.symm
            have ha9 : Aside W9 ((Value.slice A9 (k7 + 1) c9).ownBlock.toList ++ F2) vw (dContents D3) := HA2.out.touch (kt.mono (fun s hs => .inl (List.mem_append.2 (.inl hs)))) (fun j hj => by
              rcases List.mem_append.1 hj with e | e
              · rcases hown9 j (Option.mem_toList.1 e) with e2 | e2
                · exact .inl (List.mem_append.2 (.inl (Option.mem_toList.2 e2)))
                · right; omega
              · exact .inl (List.mem_append.2 (.inr e)))
            have hk7 := HK7.out
            have hpn := HPN.out
            have hpe2 := HPE.out
            refine ⟨i + 1, F2, D2, _, s ++ [128 + (i : Int)], rfl, by go_num, HLT.out, hl9, HCW.out, ha9, fun j hj => ?_, ?_, fun j hj => ⟨(World.ownsRow.lt HO9.out j hj).2, fun hm => ?_⟩, by rw [List.length_append]; simp; omega, fun y hy => ?_⟩
            · rcases hown9 j hj with e | e
              · exact HVL.out j e
              · have := HL2.out.b.size; omega
            · have e1 : (s ++ [128 + (i : Int)]).length = k7 + 1 := by rw [List.length_append, ← hk7]; rfl
              rw [e1, List.map_append]
              exact HO9.out
            · rcases hown9 j hj with e | e
              · exact (hap2 j e).2 hm
              · have := HL2.out.disk.lt j hm; omega
            · rcases List.mem_append.1 hy with e | e
              · exact HSB.out y e
              · simp at e; subst e; omega
          case measure => have := HLT.out; simp [intOf]; omega
        · have hpe : (dWrite D1 x.page (dataOf x)).1.pend = D1.pend := dWrite_pend D1 x.page (dataOf x) hz
          generalize (dWrite D1 x.page (dataOf x)).2 = ec at *
          have hec : (ec == 0) = false := by simpa using hz
          have HPE := hide hpe
          generalize (dWrite D1 x.page (dataOf x)).1 = D2 at *
          clear hz hpe hk hil hok hxs hsv hgl hlt hlw hcl has hrow hap hpd hsb hk7 hvl
          go_wp2_with fail
          refine wp_region_held_drew (S := fun w' => w'.cell? ⟨gl, ol + i * 6, none⟩ = some (.int .i64 x.kind) ∧ w'.cell? ⟨gl, ol + i * 6 + 1, none⟩ = some (.int .i64 x.page) ∧ w'.cell? ⟨gl, ol + i * 6 + 2, none⟩ = some (.int .i64 x.n) ∧ w'.cell? ⟨gl, ol + i * 6 + 3, none⟩ = some (.int .u8 x.fill) ∧ w'.cell? ⟨gl, ol + i * 6 + 4, none⟩ = some (.int .u8 x.short) ∧ w'.cell? ⟨gl, ol + i * 6 + 5, none⟩ = some (.slice As ms cs)) (by kernel_rfl) (HOC.out _ HLW.out.b.drew) (fun hS0 => ?_)
          refine wpAnyH_take (i := 0) (v := ?vsb0) rfl (by kernel_rfl) (by kernel_rfl) (by kernel_rfl) (fun _ _ _ h => h) (Or.inl ⟨by rfl, ?hysb0⟩) (by assumption) ?restsb0
          case hysb0 => (intro w hSw; (try dsimp only at hSw); go_simp; first | done | (with_reducible rfl))
          try simp only [Act.put, List.getElem_toArray, List.getElem_cons_zero, List.getElem_cons_succ, List.setIfInBounds_toArray, List.set_cons_zero, List.set_cons_succ]
          refine wpAnyH_take (i := 1) (v := ?vsb1) rfl (by kernel_rfl) (by kernel_rfl) (by kernel_rfl) (fun _ _ _ h => h) (Or.inl ⟨by rfl, ?hysb1⟩) (by assumption) ?restsb1
          case hysb1 => (intro w hSw; (try dsimp only at hSw); go_simp; first | done | (with_reducible rfl))
          try simp only [Act.put, List.getElem_toArray, List.getElem_cons_zero, List.getElem_cons_succ, List.setIfInBounds_toArray, List.set_cons_zero, List.set_cons_succ]
          refine wpAnyH_take (i := 2) (v := ?vsb2) rfl (by kernel_rfl) (by kernel_rfl) (by kernel_rfl) (fun _ _ _ h => h) (Or.inl ⟨by rfl, ?hysb2⟩) (by assumption) ?restsb2
          case hysb2 => (intro w hSw; (try dsimp only at hSw); go_simp; first | done | (with_reducible rfl))
          try simp only [Act.put, List.getElem_toArray, List.getElem_cons_zero, List.getElem_cons_succ, List.setIfInBounds_toArray, List.set_cons_zero, List.set_cons_succ]
          refine wpAnyH_take (i := 3) (v := ?vsb3) rfl (by kernel_rfl) (by kernel_rfl) (by kernel_rfl) (fun _ _ _ h => h) (Or.inl ⟨by rfl, ?hysb3⟩) (by assumption) ?restsb3
          case hysb3 => (intro w hSw; (try dsimp only at hSw); go_simp; first | done | (with_reducible rfl))
          try simp only [Act.put, List.getElem_toArray, List.getElem_cons_zero, List.getElem_cons_succ, List.setIfInBounds_toArray, List.set_cons_zero, List.set_cons_succ]
          refine wpAnyH_take (i := 4) (v := ?vsb4) rfl (by kernel_rfl) (by kernel_rfl) (by kernel_rfl) (fun _ _ _ h => h) (Or.inl ⟨by rfl, ?hysb4⟩) (by assumption) ?restsb4
          case hysb4 => (intro w hSw; (try dsimp only at hSw); go_simp; first | done | (with_reducible rfl))
          try simp only [Act.put, List.getElem_toArray, List.getElem_cons_zero, List.getElem_cons_succ, List.setIfInBounds_toArray, List.set_cons_zero, List.set_cons_succ]
          refine wpAnyH_take (i := 5) (v := ?vsb5) rfl (by kernel_rfl) (by kernel_rfl) (by kernel_rfl) (fun _ _ _ h => h) (Or.inl ⟨by rfl, ?hysb5⟩) (by assumption) ?restsb5
          case hysb5 => (intro w hSw; (try dsimp only at hSw); go_simp; first | done | (with_reducible rfl))
          try simp only [Act.put, List.getElem_toArray, List.getElem_cons_zero, List.getElem_cons_succ, List.setIfInBounds_toArray, List.set_cons_zero, List.set_cons_succ]
          refine wpAnyH_take (i := 6) (v := ?vsb6) rfl (by kernel_rfl) (by kernel_rfl) (by kernel_rfl) (fun _ _ _ h => h) (Or.inl ⟨by rfl, ?hysb6⟩) (by assumption) ?restsb6
          case hysb6 => (intro w hSw; (try dsimp only at hSw); go_simp; first | done | (with_reducible rfl))
          try simp only [Act.put, List.getElem_toArray, List.getElem_cons_zero, List.getElem_cons_succ, List.setIfInBounds_toArray, List.set_cons_zero, List.set_cons_succ]
          refine wpAnyH_take (i := 7) (v := ?vsb7) rfl (by kernel_rfl) (by kernel_rfl) (by kernel_rfl) (fun _ _ _ h => h) (Or.inl ⟨by rfl, ?hysb7⟩) (by assumption) ?restsb7
          case hysb7 => (intro w hSw; (try dsimp only at hSw); go_simp; first | done | (with_reducible rfl))
          try simp only [Act.put, List.getElem_toArray, List.getElem_cons_zero, List.getElem_cons_succ, List.setIfInBounds_toArray, List.set_cons_zero, List.set_cons_succ]
          refine wpAnyH_take (i := 8) (v := ?vsb8) rfl (by kernel_rfl) (by kernel_rfl) (by kernel_rfl) (fun _ _ _ h => h) (Or.inl ⟨by rfl, ?hysb8⟩) (by assumption) ?restsb8
          case hysb8 => (intro w hSw; (try dsimp only at hSw); go_simp; first | done | (with_reducible rfl))
          try simp only [Act.put, List.getElem_toArray, List.getElem_cons_zero, List.getElem_cons_succ, List.setIfInBounds_toArray, List.set_cons_zero, List.set_cons_succ]
          refine wpAnyH_take (i := 9) (v := ?vsb9) rfl (by kernel_rfl) (by kernel_rfl) (by kernel_rfl) (fun _ _ _ h => h) (Or.inl ⟨by rfl, ?hysb9⟩) (by assumption) ?restsb9
          case hysb9 => (intro w hSw; (try dsimp only at hSw); go_simp; first | done | (with_reducible rfl))
          try simp only [Act.put, List.getElem_toArray, List.getElem_cons_zero, List.getElem_cons_succ, List.setIfInBounds_toArray, List.set_cons_zero, List.set_cons_succ]
          refine wpAnyH_take (i := 10) (v := ?vsb10) rfl (by kernel_rfl) (by kernel_rfl) (by kernel_rfl) (fun _ _ _ h => h) (Or.inl ⟨by rfl, ?hysb10⟩) (by assumption) ?restsb10
          case hysb10 => (intro w hSw; (try dsimp only at hSw); go_simp; first | done | (with_reducible rfl))
          try simp only [Act.put, List.getElem_toArray, List.getElem_cons_zero, List.getElem_cons_succ, List.setIfInBounds_toArray, List.set_cons_zero, List.set_cons_succ]
          refine wpAnyH_take (i := 11) (v := ?vsb11) rfl (by kernel_rfl) (by kernel_rfl) (by kernel_rfl) (fun _ _ _ h => h) (Or.inl ⟨by rfl, ?hysb11⟩) (by assumption) ?restsb11
          case hysb11 => (intro w hSw; (try dsimp only at hSw); go_simp; first | done | (with_reducible rfl))
          try simp only [Act.put, List.getElem_toArray, List.getElem_cons_zero, List.getElem_cons_succ, List.setIfInBounds_toArray, List.set_cons_zero, List.set_cons_succ]
          refine wpAnyH_take (i := 12) (v := ?vsb12) rfl (by kernel_rfl) (by kernel_rfl) (by kernel_rfl) (fun _ _ _ h => h) (Or.inl ⟨by rfl, ?hysb12⟩) (by assumption) ?restsb12
          case hysb12 => (intro w hSw; (try dsimp only at hSw); go_simp; first | done | (with_reducible rfl))
          try simp only [Act.put, List.getElem_toArray, List.getElem_cons_zero, List.getElem_cons_succ, List.setIfInBounds_toArray, List.set_cons_zero, List.set_cons_succ]
          refine wpAnyH_take (i := 13) (v := ?vsb13) rfl (by kernel_rfl) (by kernel_rfl) (by kernel_rfl) (fun _ _ _ h => h) (Or.inl ⟨by rfl, ?hysb13⟩) (by assumption) ?restsb13
          case hysb13 => (intro w hSw; (try dsimp only at hSw); go_simp; first | done | (with_reducible rfl))
          try simp only [Act.put, List.getElem_toArray, List.getElem_cons_zero, List.getElem_cons_succ, List.setIfInBounds_toArray, List.set_cons_zero, List.set_cons_succ]
          refine wpAnyH_take (i := 14) (v := ?vsb14) rfl (by kernel_rfl) (by kernel_rfl) (by kernel_rfl) (fun _ _ _ h => h) (Or.inl ⟨by rfl, ?hysb14⟩) (by assumption) ?restsb14
          case hysb14 => (intro w hSw; (try dsimp only at hSw); go_simp; first | done | (with_reducible rfl))
          try simp only [Act.put, List.getElem_toArray, List.getElem_cons_zero, List.getElem_cons_succ, List.setIfInBounds_toArray, List.set_cons_zero, List.set_cons_succ]
          refine wpAnyH_take (i := 15) (v := ?vsb15) rfl (by kernel_rfl) (by kernel_rfl) (by kernel_rfl) (fun _ _ _ h => h) (Or.inl ⟨by rfl, ?hysb15⟩) (by assumption) ?restsb15
          case hysb15 => (intro w hSw; (try dsimp only at hSw); go_simp; first | done | (with_reducible rfl))
          try simp only [Act.put, List.getElem_toArray, List.getElem_cons_zero, List.getElem_cons_succ, List.setIfInBounds_toArray, List.set_cons_zero, List.set_cons_succ]
          refine wpAnyH_take (i := 16) (v := ?vsb16) rfl (by kernel_rfl) (by kernel_rfl) (by kernel_rfl) (fun _ _ _ h => h) (Or.inl ⟨by rfl, ?hysb16⟩) (by assumption) ?restsb16
          case hysb16 => (intro w hSw; (try dsimp only at hSw); go_simp; first | done | (with_reducible rfl))
          try simp only [Act.put, List.getElem_toArray, List.getElem_cons_zero, List.getElem_cons_succ, List.setIfInBounds_toArray, List.set_cons_zero, List.set_cons_succ]
          refine wpAnyH_ready (rs := [17]) (by kernel_rfl) (by simp) ?_
          refine AllReadyH.cons rfl (fun K hK => ?_) AllReadyH.nil
          go_simp
          refine (HDA.out _ HLW.out.b.drew).mono ?_
          rintro e Wd ⟨vd, rfl, how, hbd⟩
          have HV := hide how
          have HLD := hide ((HLW.out.step (Below.refl _ _).drew).step hbd)
          have HAD := hide ((HAS.out.step (Below.refl _ _).drew).step hbd)
          have HRD := hide (HROW.out.touch (Touch.below ((Below.refl _ _).drew.trans hbd) []) (by simp))
          have HPD := hide (HAP.out.touch (Touch.below ((Below.refl _ _).drew.trans hbd) F1) (fun j hj => .inl hj))
          clear how hbd
          refine hK.out _ _ (HOC.out _ HLD.out.b) (fun hS17 => ?_)
          clear hK K
          try simp only [Act.put, List.getElem_toArray, List.getElem_cons_zero, List.getElem_cons_succ, List.setIfInBounds_toArray, List.set_cons_zero, List.set_cons_succ]
          refine wpAnyH_ready (rs := [18]) (by kernel_rfl) (by simp) ?_
          refine AllReadyH.cons rfl (fun K hK => ?_) AllReadyH.nil
          go_simp
          refine (HWR.out Wd vd HLD.out.disk HV.out.bs (fun j hj => by have h1 := HV.out.lt j hj; exact ⟨fun hm => by have h2 := HLW.out.disk.lt j hm; have h3 : wr.heap.size ≤ j := h1.1; omega, h1.2⟩)).mono ?_
          rintro e Wx hdo
          obtain ⟨rfl, F2, hl2, ht2, hF2⟩ := HLD.out.does hdo
          have HL2 := hide hl2
          have HA2 := hide (HAD.out.touch (F' := (Value.slice A7 k7 c7).ownBlock.toList ++ F2) (ht2.mono (fun s hs => .inl (List.mem_append.2 (.inr hs)))) (fun j hj => by rcases List.mem_append.1 hj with e | e; exact .inl (List.mem_append.2 (.inl e)); exact (hF2 j e).imp_left (fun e => List.mem_append.2 (.inr e))))
          have HR2 : Hid (Row Wx 3 1 (.slice A7 k7 c7) k7 (s.map (.int .i64 ·))) := hide (HRD.out.touch ht2 (fun j hj => (HPD.out j hj).2))
          have HP2 := hide (HPD.out.touch ht2 hF2)
          have HSZ2 : Hid (Below W.heap.size W Wx) := hide hl2.b
          clear hdo hl2 ht2 hF2
          refine hK.out _ _ (HOC.out _ HL2.out.b) (fun hS18 => ?_)
          clear hK K
          try simp only [Act.put, List.getElem_toArray, List.getElem_cons_zero, List.getElem_cons_succ, List.setIfInBounds_toArray, List.set_cons_zero, List.set_cons_succ]
          refine wpAnyH_take (i := 19) (v := ?vsb19) rfl (by kernel_rfl) (by kernel_rfl) (by kernel_rfl) (fun _ _ _ h => h) (Or.inl ⟨by rfl, ?hysb19⟩) (by assumption) ?restsb19
          case hysb19 => (intro w hSw; (try dsimp only at hSw); go_simp; first | done | (with_reducible rfl))
          try simp only [Act.put, List.getElem_toArray, List.getElem_cons_zero, List.getElem_cons_succ, List.setIfInBounds_toArray, List.set_cons_zero, List.set_cons_succ]
          refine wpAnyH_take (i := 20) (v := ?vsb20) rfl (by kernel_rfl) (by kernel_rfl) (by kernel_rfl) (fun _ _ _ h => h) (Or.inl ⟨by rfl, ?hysb20⟩) (by assumption) ?restsb20
          case hysb20 => (intro w hSw; (try dsimp only at hSw); go_simp; first | done | (with_reducible rfl))
          try simp only [Act.put, List.getElem_toArray, List.getElem_cons_zero, List.getElem_cons_succ, List.setIfInBounds_toArray, List.set_cons_zero, List.set_cons_succ]
          refine wpAnyH_done (by kernel_rfl) ?_ _
          go_wp2_with fail
          go_roundw
          case rel => exact ⟨i + 1, F2, D2, _, s, rfl, by go_num, HLT.out, HL2.out, HCW.out, HA2.out, HVL.out, by rw [← HK7.out]; exact HR2.out, HP2.out, by rw [HPE.out]; exact HPN.out, HSB.out⟩
          case measure => have := HLT.out; simp [intOf]; omega
      · have hk0 : (x.kind == 0) = false := by simpa using hk
        clear hk hil hok hxs hsv hgl hlt hlw hcl has hrow hap hpd hsb hk7 hvl
        go_wp2_with fail
        refine wp_region_held_drew (S := fun w' => w'.cell? ⟨gl, ol + i * 6, none⟩ = some (.int .i64 x.kind) ∧ w'.cell? ⟨gl, ol + i * 6 + 1, none⟩ = some (.int .i64 x.page) ∧ w'.cell? ⟨gl, ol + i * 6 + 2, none⟩ = some (.int .i64 x.n) ∧ w'.cell? ⟨gl, ol + i * 6 + 3, none⟩ = some (.int .u8 x.fill) ∧ w'.cell? ⟨gl, ol + i * 6 + 4, none⟩ = some (.int .u8 x.short) ∧ w'.cell? ⟨gl, ol + i * 6 + 5, none⟩ = some (.slice As ms cs)) (by kernel_rfl) (HOC.out _ HLW.out.b.drew) (fun hS0 => ?_)
        refine wpAnyH_take (i := 0) (v := ?vsc0) rfl (by kernel_rfl) (by kernel_rfl) (by kernel_rfl) (fun _ _ _ h => h) (Or.inl ⟨by rfl, ?hysc0⟩) (by assumption) ?restsc0
        case hysc0 => (intro w hSw; (try dsimp only at hSw); go_simp; first | done | (with_reducible rfl))
        try simp only [Act.put, List.getElem_toArray, List.getElem_cons_zero, List.getElem_cons_succ, List.setIfInBounds_toArray, List.set_cons_zero, List.set_cons_succ]
        refine wpAnyH_take (i := 1) (v := ?vsc1) rfl (by kernel_rfl) (by kernel_rfl) (by kernel_rfl) (fun _ _ _ h => h) (Or.inl ⟨by rfl, ?hysc1⟩) (by assumption) ?restsc1
        case hysc1 => (intro w hSw; (try dsimp only at hSw); go_simp; first | done | (with_reducible rfl))
        try simp only [Act.put, List.getElem_toArray, List.getElem_cons_zero, List.getElem_cons_succ, List.setIfInBounds_toArray, List.set_cons_zero, List.set_cons_succ]
        refine wpAnyH_take (i := 2) (v := ?vsc2) rfl (by kernel_rfl) (by kernel_rfl) (by kernel_rfl) (fun _ _ _ h => h) (Or.inl ⟨by rfl, ?hysc2⟩) (by assumption) ?restsc2
        case hysc2 => (intro w hSw; (try dsimp only at hSw); go_simp; first | done | (with_reducible rfl))
        try simp only [Act.put, List.getElem_toArray, List.getElem_cons_zero, List.getElem_cons_succ, List.setIfInBounds_toArray, List.set_cons_zero, List.set_cons_succ]
        refine wpAnyH_take (i := 3) (v := ?vsc3) rfl (by kernel_rfl) (by kernel_rfl) (by kernel_rfl) (fun _ _ _ h => h) (Or.inl ⟨by rfl, ?hysc3⟩) (by assumption) ?restsc3
        case hysc3 => (intro w hSw; (try dsimp only at hSw); go_simp; first | done | (with_reducible rfl))
        try simp only [Act.put, List.getElem_toArray, List.getElem_cons_zero, List.getElem_cons_succ, List.setIfInBounds_toArray, List.set_cons_zero, List.set_cons_succ]
        refine wpAnyH_take (i := 4) (v := ?vsc4) rfl (by kernel_rfl) (by kernel_rfl) (by kernel_rfl) (fun _ _ _ h => h) (Or.inl ⟨by rfl, ?hysc4⟩) (by assumption) ?restsc4
        case hysc4 => (intro w hSw; (try dsimp only at hSw); go_simp; first | done | (with_reducible rfl))
        try simp only [Act.put, List.getElem_toArray, List.getElem_cons_zero, List.getElem_cons_succ, List.setIfInBounds_toArray, List.set_cons_zero, List.set_cons_succ]
        refine wpAnyH_take (i := 5) (v := ?vsc5) rfl (by kernel_rfl) (by kernel_rfl) (by kernel_rfl) (fun _ _ _ h => h) (Or.inl ⟨by rfl, ?hysc5⟩) (by assumption) ?restsc5
        case hysc5 => (intro w hSw; (try dsimp only at hSw); go_simp; first | done | (with_reducible rfl))
        try simp only [Act.put, List.getElem_toArray, List.getElem_cons_zero, List.getElem_cons_succ, List.setIfInBounds_toArray, List.set_cons_zero, List.set_cons_succ]
        refine wpAnyH_take (i := 6) (v := ?vsc6) rfl (by kernel_rfl) (by kernel_rfl) (by kernel_rfl) (fun _ _ _ h => h) (Or.inl ⟨by rfl, ?hysc6⟩) (by assumption) ?restsc6
        case hysc6 => (intro w hSw; (try dsimp only at hSw); go_simp; first | done | (with_reducible rfl))
        try simp only [Act.put, List.getElem_toArray, List.getElem_cons_zero, List.getElem_cons_succ, List.setIfInBounds_toArray, List.set_cons_zero, List.set_cons_succ]
        refine wpAnyH_take (i := 7) (v := undef) rfl (by kernel_rfl) (by kernel_rfl) (by kernel_rfl) (fun _ _ _ h => h) (Or.inr ⟨by rfl, rfl⟩) (by assumption) ?restsc7
        try simp only [Act.put, List.getElem_toArray, List.getElem_cons_zero, List.getElem_cons_succ, List.setIfInBounds_toArray, List.set_cons_zero, List.set_cons_succ]
        refine wpAnyH_take (i := 8) (v := undef) rfl (by kernel_rfl) (by kernel_rfl) (by kernel_rfl) (fun _ _ _ h => h) (Or.inr ⟨by rfl, rfl⟩) (by assumption) ?restsc8
        try simp only [Act.put, List.getElem_toArray, List.getElem_cons_zero, List.getElem_cons_succ, List.setIfInBounds_toArray, List.set_cons_zero, List.set_cons_succ]
        refine wpAnyH_take (i := 9) (v := undef) rfl (by kernel_rfl) (by kernel_rfl) (by kernel_rfl) (fun _ _ _ h => h) (Or.inr ⟨by rfl, rfl⟩) (by assumption) ?restsc9
        try simp only [Act.put, List.getElem_toArray, List.getElem_cons_zero, List.getElem_cons_succ, List.setIfInBounds_toArray, List.set_cons_zero, List.set_cons_succ]
        refine wpAnyH_take (i := 10) (v := undef) rfl (by kernel_rfl) (by kernel_rfl) (by kernel_rfl) (fun _ _ _ h => h) (Or.inr ⟨by rfl, rfl⟩) (by assumption) ?restsc10
        try simp only [Act.put, List.getElem_toArray, List.getElem_cons_zero, List.getElem_cons_succ, List.setIfInBounds_toArray, List.set_cons_zero, List.set_cons_succ]
        refine wpAnyH_take (i := 11) (v := undef) rfl (by kernel_rfl) (by kernel_rfl) (by kernel_rfl) (fun _ _ _ h => h) (Or.inr ⟨by rfl, rfl⟩) (by assumption) ?restsc11
        try simp only [Act.put, List.getElem_toArray, List.getElem_cons_zero, List.getElem_cons_succ, List.setIfInBounds_toArray, List.set_cons_zero, List.set_cons_succ]
        refine wpAnyH_take (i := 12) (v := undef) rfl (by kernel_rfl) (by kernel_rfl) (by kernel_rfl) (fun _ _ _ h => h) (Or.inr ⟨by rfl, rfl⟩) (by assumption) ?restsc12
        try simp only [Act.put, List.getElem_toArray, List.getElem_cons_zero, List.getElem_cons_succ, List.setIfInBounds_toArray, List.set_cons_zero, List.set_cons_succ]
        refine wpAnyH_take (i := 13) (v := undef) rfl (by kernel_rfl) (by kernel_rfl) (by kernel_rfl) (fun _ _ _ h => h) (Or.inr ⟨by rfl, rfl⟩) (by assumption) ?restsc13
        try simp only [Act.put, List.getElem_toArray, List.getElem_cons_zero, List.getElem_cons_succ, List.setIfInBounds_toArray, List.set_cons_zero, List.set_cons_succ]
        refine wpAnyH_take (i := 14) (v := undef) rfl (by kernel_rfl) (by kernel_rfl) (by kernel_rfl) (fun _ _ _ h => h) (Or.inr ⟨by rfl, rfl⟩) (by assumption) ?restsc14
        try simp only [Act.put, List.getElem_toArray, List.getElem_cons_zero, List.getElem_cons_succ, List.setIfInBounds_toArray, List.set_cons_zero, List.set_cons_succ]
        refine wpAnyH_take (i := 15) (v := undef) rfl (by kernel_rfl) (by kernel_rfl) (by kernel_rfl) (fun _ _ _ h => h) (Or.inr ⟨by rfl, rfl⟩) (by assumption) ?restsc15
        try simp only [Act.put, List.getElem_toArray, List.getElem_cons_zero, List.getElem_cons_succ, List.setIfInBounds_toArray, List.set_cons_zero, List.set_cons_succ]
        refine wpAnyH_take (i := 16) (v := undef) rfl (by kernel_rfl) (by kernel_rfl) (by kernel_rfl) (fun _ _ _ h => h) (Or.inr ⟨by rfl, rfl⟩) (by assumption) ?restsc16
        try simp only [Act.put, List.getElem_toArray, List.getElem_cons_zero, List.getElem_cons_succ, List.setIfInBounds_toArray, List.set_cons_zero, List.set_cons_succ]
        refine wpAnyH_take (i := 17) (v := undef) rfl (by kernel_rfl) (by kernel_rfl) (by kernel_rfl) (fun _ _ _ h => h) (Or.inr ⟨by rfl, rfl⟩) (by assumption) ?restsc17
        try simp only [Act.put, List.getElem_toArray, List.getElem_cons_zero, List.getElem_cons_succ, List.setIfInBounds_toArray, List.set_cons_zero, List.set_cons_succ]
        refine wpAnyH_take (i := 18) (v := undef) rfl (by kernel_rfl) (by kernel_rfl) (by kernel_rfl) (fun _ _ _ h => h) (Or.inr ⟨by rfl, rfl⟩) (by assumption) ?restsc18
        try simp only [Act.put, List.getElem_toArray, List.getElem_cons_zero, List.getElem_cons_succ, List.setIfInBounds_toArray, List.set_cons_zero, List.set_cons_succ]
        refine wpAnyH_take (i := 19) (v := undef) rfl (by kernel_rfl) (by kernel_rfl) (by kernel_rfl) (fun _ _ _ h => h) (Or.inr ⟨by rfl, rfl⟩) (by assumption) ?restsc19
        try simp only [Act.put, List.getElem_toArray, List.getElem_cons_zero, List.getElem_cons_succ, List.setIfInBounds_toArray, List.set_cons_zero, List.set_cons_succ]
        refine wpAnyH_take (i := 20) (v := ?vsc20) rfl (by kernel_rfl) (by kernel_rfl) (by kernel_rfl) (fun _ _ _ h => h) (Or.inl ⟨by rfl, ?hysc20⟩) (by assumption) ?restsc20
        case hysc20 => (intro w hSw; (try dsimp only at hSw); go_simp; first | done | (with_reducible rfl))
        try simp only [Act.put, List.getElem_toArray, List.getElem_cons_zero, List.getElem_cons_succ, List.setIfInBounds_toArray, List.set_cons_zero, List.set_cons_succ]
        refine wpAnyH_done (by kernel_rfl) ?_ _
        go_wp2_with fail
        go_roundw
        case rel => exact ⟨i + 1, F1, D1, _, s, rfl, by go_num, HLT.out, HLW.out.step (Below.refl _ _).drew, ⟨HCL.out.pages, HCL.out.failed, HCL.out.fuse, Nat.le_succ_of_le HCL.out.pend⟩, HAS.out.step (Below.refl _ _).drew, HVL.out, by rw [← HK7.out]; exact HROW.out, HAP.out, HPN.out, HSB.out⟩
        case measure => have := HLT.out; simp [intOf]; omega
    · obtain rfl : i = n1 := by have := HI.out; omega
      have HSS := hide hpd
      clear hlt hlw hcl has hi hrow hap hpd hsb hk7 hvl
      have HP1 : Hid (D1.pages.length = 6) := hide (by rw [HCL.out.pages]; exact HP3.out)
      go_wp2_with fail
      refine (contents_l d F1 D1 wr HLW.out.disk HCL.out.failed (by rw [HP1.out]; decide)).mono ?_
      rintro e w7 ⟨vn, rfl, how, hb7⟩
      have HN7 := hide how
      have HB7 := hide hb7
      clear how hb7
      go_wp2_with fail
      refine (clone_c d F1 D1 w7 (HLW.out.disk.step HB7.out) (by rw [HP1.out]; decide) (by have h1 := HCL.out.pend; have h2 := HNL.out; omega)).mono ?_
      rintro e w8 ⟨d2, F2, rfl, hne, hd2, hb8, hF2⟩
      have HD2 := hide hd2
      have HB8 := hide hb8
      have HF2 := hide hF2
      have HPE := hide (pending_c d F1 D1 w8 ((HLW.out.disk.step HB7.out).step HB8.out))
      rw [HSS.out, ← HK7.out] at HPE
      clear hne hd2 hb8 hF2
      go_wp2_with fail
      refine HPE.out.mono ?_
      rintro e wz ⟨rfl, rfl⟩
      clear HPE
      have h7 := HB7.out.size
      have h8 := HB8.out.size
      have HW7 : Hid (wr.heap.size ≤ w7.heap.size) := hide h7
      have HW8 : Hid (w7.heap.size ≤ w8.heap.size) := hide h8
      have HIS : Hid (Is w8 (.slice A7 k7 c7) s) := hide (Row.is (by rw [← HK7.out]; exact Row.touch HROW.out (Touch.below (HB7.out.trans (HB8.out.mono h7)) []) (by simp)) (fun y hy => by have := HSB.out y hy; omega))
      have HL8 := hide ((HLW.out.step HB7.out).step HB8.out)
      have HA8 := hide (((HAS.out.touch (F' := F1) (Touch.below (HB7.out.trans (HB8.out.mono h7)) _) (fun j hj => .inl (List.mem_append.2 (.inr hj))))))
      have HAL : Hid (∀ j, vw.ownBlock = some j → j < wr.heap.size) := hide (fun j hj => (HAS.out.2 j hj).1)
      have HNL7 : Hid (∀ j, vn.ownBlock = some j → wr.heap.size ≤ j ∧ j < w7.heap.size) := hide (fun j hj => HN7.out.lt j hj)
      have HFL : Hid (∀ j ∈ F1, j < wr.heap.size) := hide (HLW.out.disk.lt)
      clear h7 h8
      go_wp2_with fail
      refine (crash_c d F1 D1 _ s w8 HL8.out.disk HIS.out (fun j hj => (HAP.out j hj).2)).mono ?_
      rintro e w9 hdo
      obtain ⟨rfl, F9, hl9, ht9, hF9⟩ := HL8.out.does hdo
      have HL9 := hide hl9
      have HT9 := hide ht9
      have HF9 := hide hF9
      have HD9 := hide (HD2.out.touch ht9 (fun j hj hm => by have h1 := HF2.out j hj; have h2 := HFL.out j hm; have h3 := HW7.out; omega))
      have HV9 := hide ((HN7.out.bs.step HB8.out).touch ht9 (fun j hj hm => by have h1 := (HNL7.out j hj).1; have h2 := HFL.out j hm; omega))
      have HA9 := hide (HA8.out.1.touch ht9 (fun j hj => (HA8.out.2 j hj).2))
      clear hdo hl9 ht9 hF9
      go_wp2_with fail
      refine (crash_c d2 F2 D1 _ [] w9 HD9.out (Is.nil _) (fun j hj => by cases hj)).mono ?_
      rintro e w10 ⟨rfl, F10, hd10, ht10, hF10⟩
      have HD10 := hide hd10
      have HL10 := hide (HL9.out.disk.touch ht10 (fun j hj hm => by
        have h1 := HF2.out j hm
        have h2 := HD2.out.lt j hm
        have h4 := HW7.out
        rcases HF9.out j hj with e | e
        · have := HFL.out j e; omega
        · omega))
      have HV10 := hide (HV9.out.touch ht10 (fun j hj hm => by have h1 := (HNL7.out j hj).2; have h2 := HF2.out j hm; omega))
      have HA10 := hide (HA9.out.touch ht10 (fun j hj hm => by have h1 := HAL.out j hj; have h2 := HF2.out j hm; have h3 := HW7.out; omega))
      have HB10 : Hid (Below W.heap.size W w10) := hide (Below.touch HL9.out.b ht10 (fun j hm => by have h1 := HF2.out j hm; have h2 := HLW.out.b.size; have h3 := HW7.out; omega) HL9.out.b.size)
      clear hd10 ht10 hF10
      have hc1 : dContents (dCrash D1 s) = dContents D1 := crash_all HLW.out.ok s HSS.out.symm (fun y hy => (HSB.out y hy).1)
      have hc2 : dContents (dCrash D1 []) = dContents D3 := contents_pages ((crash_none D1).trans HCL.out.pages) rfl (List.eq_nil_of_length_eq_zero (Nat.le_zero.1 HC3.out.pend))
      have HCA := hide (fun (X : World) (k : Below w10.heap.size w10 X) => contents_l d F9 _ X (HL10.out.step k) (cl_crash D1 s).failed (by rw [dCrash_len HLW.out.ok, HP1.out]; decide))
      have HCB := hide (fun (X : World) (k : Below w10.heap.size w10 X) => contents_l d2 F10 _ X (HD10.out.step k) (cl_crash D1 []).failed (by rw [dCrash_len HLW.out.ok, HP1.out]; decide))
      rw [hc1] at HCA
      rw [hc2] at HCB
      clear hc1 hc2
      go_wp2_with fail
      refine wp_region_held_drew (S := fun w' => (convert 28 9 vn).run Try.prog w' = .ok (.string ⟨(dContents D1).toArray⟩) w' ∧ (convert 28 9 vw).run Try.prog w' = .ok (.string ⟨(dContents D3).toArray⟩) w') (by kernel_rfl) (⟨run_string_bs HV10.out.drew, run_string_bs HA10.out.drew⟩) (fun hS0 => ?_)
      refine wpAnyH_take (i := 0) (v := ?vse0) rfl (by kernel_rfl) (by kernel_rfl) (by kernel_rfl) (fun _ _ _ h => h) (Or.inl ⟨by rfl, ?hyse0⟩) (by assumption) ?restse0
      case hyse0 => (intro w hSw; (try dsimp only at hSw); go_simp; first | done | (with_reducible rfl))
      try simp only [Act.put, List.getElem_toArray, List.getElem_cons_zero, List.getElem_cons_succ, List.setIfInBounds_toArray, List.set_cons_zero, List.set_cons_succ]
      refine wpAnyH_take (i := 3) (v := ?vse1) rfl (by kernel_rfl) (by kernel_rfl) (by kernel_rfl) (fun _ _ _ h => h) (Or.inl ⟨by rfl, ?hyse1⟩) (by assumption) ?restse1
      case hyse1 => (intro w hSw; (try dsimp only at hSw); go_simp; first | done | (with_reducible rfl))
      try simp only [Act.put, List.getElem_toArray, List.getElem_cons_zero, List.getElem_cons_succ, List.setIfInBounds_toArray, List.set_cons_zero, List.set_cons_succ]
      refine wpAnyH_take (i := 4) (v := ?vse2) rfl (by kernel_rfl) (by kernel_rfl) (by kernel_rfl) (fun _ _ _ h => h) (Or.inl ⟨by rfl, ?hyse2⟩) (by assumption) ?restse2
      case hyse2 => (intro w hSw; (try dsimp only at hSw); go_simp; first | done | (with_reducible rfl))
      try simp only [Act.put, List.getElem_toArray, List.getElem_cons_zero, List.getElem_cons_succ, List.setIfInBounds_toArray, List.set_cons_zero, List.set_cons_succ]
      refine wpAnyH_ready (rs := [1]) (by kernel_rfl) (by simp) ?_
      refine AllReadyH.cons rfl (fun K hK => ?_) AllReadyH.nil
      go_simp
      refine (HCA.out _ (Below.refl _ _).drew).mono ?_
      rintro e w11 ⟨v11, rfl, how, hb11⟩
      have HV11 := hide how.bs
      have hb := (Below.refl w10.heap.size w10).drew.trans hb11
      have HB11 := hide hb
      have HVN := hide (HV10.out.step hb)
      have HVW := hide (HA10.out.step hb)
      clear how hb11 hb
      refine hK.out _ _ (⟨run_string_bs HVN.out, run_string_bs HVW.out⟩) (fun hS3 => ?_)
      clear hK K
      refine heldMono (S' := (fun w' => ((convert 28 9 vn).run Try.prog w' = .ok (.string ⟨(dContents D1).toArray⟩) w' ∧ (convert 28 9 vw).run Try.prog w' = .ok (.string ⟨(dContents D3).toArray⟩) w') ∧ (convert 28 9 v11).run Try.prog w' = .ok (.string ⟨(dContents D1).toArray⟩) w')) (fun _ h => h.1) _ _ _ _ ?_
      have hT3 : (fun w' => ((convert 28 9 vn).run Try.prog w' = .ok (.string ⟨(dContents D1).toArray⟩) w' ∧ (convert 28 9 vw).run Try.prog w' = .ok (.string ⟨(dContents D3).toArray⟩) w') ∧ (convert 28 9 v11).run Try.prog w' = .ok (.string ⟨(dContents D1).toArray⟩) w') _ := ⟨⟨run_string_bs HVN.out, run_string_bs HVW.out⟩, run_string_bs HV11.out⟩
      try simp only [Act.put, List.getElem_toArray, List.getElem_cons_zero, List.getElem_cons_succ, List.setIfInBounds_toArray, List.set_cons_zero, List.set_cons_succ]
      refine wpAnyH_take (i := 2) (v := ?vse4) rfl (by kernel_rfl) (by kernel_rfl) (by kernel_rfl) (fun _ _ _ h => h) (Or.inl ⟨by rfl, ?hyse4⟩) (by assumption) ?restse4
      case hyse4 => (intro w hSw; (try dsimp only at hSw); go_simp; first | done | (with_reducible rfl))
      try simp only [Act.put, List.getElem_toArray, List.getElem_cons_zero, List.getElem_cons_succ, List.setIfInBounds_toArray, List.set_cons_zero, List.set_cons_succ]
      refine wpAnyH_take (i := 5) (v := ?vse5) rfl (by kernel_rfl) (by kernel_rfl) (by kernel_rfl) (fun _ _ _ h => h) (Or.inl ⟨by rfl, ?hyse5⟩) (by assumption) ?restse5
      case hyse5 => (intro w hSw; (try dsimp only at hSw); go_simp; first | done | (with_reducible rfl))
      try simp only [Act.put, List.getElem_toArray, List.getElem_cons_zero, List.getElem_cons_succ, List.setIfInBounds_toArray, List.set_cons_zero, List.set_cons_succ]
      refine wpAnyH_take (i := 6) (v := ?vse6) rfl (by kernel_rfl) (by kernel_rfl) (by kernel_rfl) (fun _ _ _ h => h) (Or.inl ⟨by rfl, ?hyse6⟩) (by assumption) ?restse6
      case hyse6 => (intro w hSw; (try dsimp only at hSw); go_simp; first | done | (with_reducible rfl))
      try simp only [Act.put, List.getElem_toArray, List.getElem_cons_zero, List.getElem_cons_succ, List.setIfInBounds_toArray, List.set_cons_zero, List.set_cons_succ]
      refine wpAnyH_take (i := 7) (v := ?vse7) rfl (by kernel_rfl) (by kernel_rfl) (by kernel_rfl) (fun _ _ _ h => h) (Or.inl ⟨by rfl, ?hyse7⟩) (by assumption) ?restse7
      case hyse7 => (intro w hSw; (try dsimp only at hSw); go_simp; first | done | (with_reducible rfl))
      try simp only [Act.put, List.getElem_toArray, List.getElem_cons_zero, List.getElem_cons_succ, List.setIfInBounds_toArray, List.set_cons_zero, List.set_cons_succ]
      refine wpAnyH_take (i := 10) (v := ?vse8) rfl (by kernel_rfl) (by kernel_rfl) (by kernel_rfl) (fun _ _ _ h => h) (Or.inl ⟨by rfl, ?hyse8⟩) (by assumption) ?restse8
      case hyse8 => (intro w hSw; (try dsimp only at hSw); go_simp; first | done | (with_reducible rfl))
      try simp only [Act.put, List.getElem_toArray, List.getElem_cons_zero, List.getElem_cons_succ, List.setIfInBounds_toArray, List.set_cons_zero, List.set_cons_succ]
      refine wpAnyH_take (i := 11) (v := ?vse9) rfl (by kernel_rfl) (by kernel_rfl) (by kernel_rfl) (fun _ _ _ h => h) (Or.inl ⟨by rfl, ?hyse9⟩) (by assumption) ?restse9
      case hyse9 => (intro w hSw; (try dsimp only at hSw); go_simp; first | done | (with_reducible rfl))
      try simp only [Act.put, List.getElem_toArray, List.getElem_cons_zero, List.getElem_cons_succ, List.setIfInBounds_toArray, List.set_cons_zero, List.set_cons_succ]
      refine wpAnyH_ready (rs := [8]) (by kernel_rfl) (by simp) ?_
      refine AllReadyH.cons rfl (fun K hK => ?_) AllReadyH.nil
      go_simp
      refine (HCB.out _ HB11.out).mono ?_
      rintro e w12 ⟨v12, rfl, how, hb12⟩
      have HV12 := hide how.bs
      have HB12 := hide (HB11.out.trans (hb12.mono HB11.out.size))
      have HVN2 := hide (HVN.out.step hb12)
      have HVW2 := hide (HVW.out.step hb12)
      have HV112 := hide (HV11.out.step hb12)
      clear how hb12
      refine hK.out _ _ (⟨⟨run_string_bs HVN2.out, run_string_bs HVW2.out⟩, run_string_bs HV112.out⟩) (fun hS10 => ?_)
      clear hK K
      refine heldMono (S' := (fun w' => (((convert 28 9 vn).run Try.prog w' = .ok (.string ⟨(dContents D1).toArray⟩) w' ∧ (convert 28 9 vw).run Try.prog w' = .ok (.string ⟨(dContents D3).toArray⟩) w') ∧ (convert 28 9 v11).run Try.prog w' = .ok (.string ⟨(dContents D1).toArray⟩) w') ∧ (convert 28 9 v12).run Try.prog w' = .ok (.string ⟨(dContents D3).toArray⟩) w')) (fun _ h => h.1) _ _ _ _ ?_
      have hT10 : (fun w' => (((convert 28 9 vn).run Try.prog w' = .ok (.string ⟨(dContents D1).toArray⟩) w' ∧ (convert 28 9 vw).run Try.prog w' = .ok (.string ⟨(dContents D3).toArray⟩) w') ∧ (convert 28 9 v11).run Try.prog w' = .ok (.string ⟨(dContents D1).toArray⟩) w') ∧ (convert 28 9 v12).run Try.prog w' = .ok (.string ⟨(dContents D3).toArray⟩) w') _ := ⟨⟨⟨run_string_bs HVN2.out, run_string_bs HVW2.out⟩, run_string_bs HV112.out⟩, run_string_bs HV12.out⟩
      try simp only [Act.put, List.getElem_toArray, List.getElem_cons_zero, List.getElem_cons_succ, List.setIfInBounds_toArray, List.set_cons_zero, List.set_cons_succ]
      refine wpAnyH_take (i := 9) (v := ?vse11) rfl (by kernel_rfl) (by kernel_rfl) (by kernel_rfl) (fun _ _ _ h => h) (Or.inl ⟨by rfl, ?hyse11⟩) (by assumption) ?restse11
      case hyse11 => (intro w hSw; (try dsimp only at hSw); go_simp; first | done | (with_reducible rfl))
      try simp only [Act.put, List.getElem_toArray, List.getElem_cons_zero, List.getElem_cons_succ, List.setIfInBounds_toArray, List.set_cons_zero, List.set_cons_succ]
      refine wpAnyH_take (i := 12) (v := ?vse12) rfl (by kernel_rfl) (by kernel_rfl) (by kernel_rfl) (fun _ _ _ h => h) (Or.inl ⟨by rfl, ?hyse12⟩) (by assumption) ?restse12
      case hyse12 => (intro w hSw; (try dsimp only at hSw); go_simp; first | done | (with_reducible rfl))
      try simp only [Act.put, List.getElem_toArray, List.getElem_cons_zero, List.getElem_cons_succ, List.setIfInBounds_toArray, List.set_cons_zero, List.set_cons_succ]
      refine wpAnyH_take (i := 13) (v := ?vse13) rfl (by kernel_rfl) (by kernel_rfl) (by kernel_rfl) (fun _ _ _ h => h) (Or.inl ⟨by rfl, ?hyse13⟩) (by assumption) ?restse13
      case hyse13 => (intro w hSw; (try dsimp only at hSw); go_simp; first | done | (with_reducible rfl))
      try simp only [Act.put, List.getElem_toArray, List.getElem_cons_zero, List.getElem_cons_succ, List.setIfInBounds_toArray, List.set_cons_zero, List.set_cons_succ]
      refine wpAnyH_take (i := 14) (v := ?vse14) rfl (by kernel_rfl) (by kernel_rfl) (by kernel_rfl) (fun _ _ _ h => h) (Or.inl ⟨by rfl, ?hyse14⟩) (by assumption) ?restse14
      case hyse14 => (intro w hSw; (try dsimp only at hSw); go_simp; first | done | (with_reducible rfl))
      try simp only [Act.put, List.getElem_toArray, List.getElem_cons_zero, List.getElem_cons_succ, List.setIfInBounds_toArray, List.set_cons_zero, List.set_cons_succ]
      refine wpAnyH_done (by kernel_rfl) ?_ _
      go_wp2_with fail
      go_ret
      exact ⟨by first | rfl | simp, HB10.out.trans (HB12.out.mono HB10.out.size)⟩
end Go.Proofs.Ytlpnichgfhgdmaa
