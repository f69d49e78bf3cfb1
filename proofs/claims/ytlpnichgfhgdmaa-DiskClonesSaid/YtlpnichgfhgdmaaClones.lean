/- DiskClones: a clone and the original go their own ways. -/
import Derived.Test.YtlpnichgfhgdmaaLast
namespace Go.Proofs.Ytlpnichgfhgdmaa
open Go.ChangeShapes Go.WideShapes Go.ChangeAt Go.RowKit
set_option linter.unusedVariables false
set_option linter.unusedSimpArgs false

/-- What Read hands back of a page: a new array that may be written. -/
def ReadB (w : World) (D : DS) (p : Nat) (e : Ending) (w' : World) : Prop :=
  ∃ v, e = .returned (.tuple #[v, .int .i64 0]) ∧ v = .slice (some ⟨w.heap.size, 0, none⟩) 128 128 ∧ Bs w' v (content D p) ∧ w'.there w.heap.size 0 128 ∧ Below w.heap.size w w'
section
attribute [local go_sem] Oper.semAt_some
set_option maxRecDepth 100000 in
set_option maxHeartbeats 4000000 in
theorem read_okB (d : Nat) (F : List Nat) (D : DS) (p : Nat) (w : World) (h : Disk w d F D) (hf : D.failed = false) (hp : p < D.pages.length) :
    Calls Try.prog 15 #[.pointer (some ⟨d, 0, none⟩), .int .i64 p] w (ReadB w D p) := by
  have hrd : dRead D p = (content D p, 0) := by unfold dRead; rw [if_neg (by simp [hf]), if_pos (by simp [thereB]; omega)]; rfl
  have hlt : ∀ j ∈ F, j < w.heap.size := by obtain ⟨gv, pv, h⟩ := h; exact h.lt
  have H := hide h
  obtain ⟨gv, pv, hdk⟩ := h
  obtain ⟨c0, c1, c2, c3, f0, f1, f2, f3⟩ := hdk.cells
  rw [hf] at c3
  have HRD := hide hrd
  clear hdk hrd hf
  have hz := zero_page
  have htb : thereB D p = true := by simp [thereB]; omega
  refine (callsIn_wide (n := 3)).1 ?_
  refine callsIn_of_wp_marks Try.func15 rfl trivial ?_ rfl
  simp only [Try.ntmps15, List.size_toArray, List.length_cons, List.length_nil, Nat.reduceAdd, Nat.reduceSub, Array.replicate_succ, Array.replicate_zero, List.push_toArray, List.append_toArray, List.nil_append, List.cons_append]
  have hth := there_c d F D p w H.out
  rw [htb] at hth
  gi_wp2_with fail
  refine ⟨trivial, ?_⟩
  refine (callsIn_wide.2 hth).mono ?_
  rintro e w' ⟨rfl, rfl⟩
  clear hth
  gi_wp2_with fail
  refine ⟨trivial, ?_⟩
  refine (contents_in Fence.wide _ trivial rfl d p _).mono ?_
  rintro e w' ⟨rfl, rfl⟩
  gi_wp2_with fail
  obtain ⟨W0, hW0⟩ : ∃ W0, W0 = ((w.alloc (.cells zpg 64)).alloc (Obj.cells #[.pointer (some ⟨d, 0, none⟩)] 23)).alloc (Obj.cells #[.int .i64 (p : Int)] 3) := ⟨_, rfl⟩
  have hsz : W0.heap.size = w.heap.size + 3 := by rw [hW0]; simp
  have kw0 : Below w.heap.size w W0 := by rw [hW0]; exact (((Below.refl _ w).alloc (Nat.le_refl _) _).alloc (by simp) _).alloc (by simp; omega) _
  have hb1 : W0.cell? ⟨w.heap.size + 1, 0, none⟩ = some (.pointer (some ⟨d, 0, none⟩)) := by rw [hW0]; simp [go_sem]
  have hb2 : W0.cell? ⟨w.heap.size + 1 + 1, 0, none⟩ = some (.int .i64 (p : Int)) := by rw [hW0]; simp [go_sem]
  have hblk : Blk W0 w.heap.size 64 zpg := by
    rw [hW0]; exact (Blk.new w 64 zpg).touch (S := []) (((Touch.refl [] _).alloc _).alloc _) (by simp)
  have hL0 : W0.rangeAt w.heap.size 0 (lastc []) := fun j u hj => by
    rw [Nat.zero_add, hblk.cell]
    simpa [lastc] using hj
  have hT0 : W0.there w.heap.size 0 128 := fun j hj => by
    rw [Nat.zero_add, hblk.cell j, hblk.froz j]
    have := zpg_size
    exact ⟨by rw [Array.getElem?_eq_getElem (by omega)]; rfl, rfl⟩
  rw [← hW0]
  have hd0 := H.out.step kw0
  clear hW0 hblk c0 c1 c2 c3 f0 f1 f2 f3
  refine wpIn_rangeFunc_ownH (w0 := W0) rfl (by omega) (gf := 44) (lb := #[.pointer (some ⟨w.heap.size + 1, 0, none⟩), .pointer (some ⟨w.heap.size + 1 + 1, 0, none⟩)]) rfl trivial (enters_of Try.func44 (by kernel_rfl) rfl)
    (encs := fun x : Pg => #[pgv x.1]) (Kp := Hole (w.heap.size + 3) w.heap.size) (S := fun xs => xs.map (·.1) = hist D p) (Sp := fun _ => True) (N := (hist D p).length)
    (fun l J Jx W hW hJ hJx hY h0 => cont1_in Fence.wide _ trivial rfl (by omega) l (w.heap.size + 1) (w.heap.size + 1 + 1) (w.heap.size + 3) w.heap.size d F D p hp J Jx W (hd0.step hW) (fun j hj => by have := hlt j hj; omega) (by omega) (by omega) (by have := hW.size; omega)
      ((hW.cell (p := ⟨w.heap.size + 1, 0, none⟩) (by show w.heap.size + 1 < _; omega)).trans hb1) ((hW.cell (p := ⟨w.heap.size + 1 + 1, 0, none⟩) (by show w.heap.size + 1 + 1 < _; omega)).trans hb2) hJ hY h0)
    Hole.t (fun W l o o' hl h1 h2 h3 => Hole.b (w := W0) (by omega) W l o o' hl h1 h2 h3) (Below.refl _ _) (fun _ => rfl)
    (RdI W0 w.heap.size)
    (fun _ _ _ => False) (rdI_own hsz) (fun _ _ _ _ _ hs _ _ => hs) ⟨⟨hL0, hT0⟩, Hole.refl _ _ _⟩
    (fun x a' W => ∃ Bx, w.heap.size + 3 ≤ Bx ∧ Blk W Bx 64 (x.1.map bv).toArray ∧ a' = {
      tmps := #[.pointer (some ⟨d, 0, none⟩), .int .i64 p, undef, undef, .slice none 0 0, .int .i64 0, .pointer (some ⟨w.heap.size, 0, none⟩), .pointer (some ⟨Bx, 0, none⟩), .bool false,
        .pointer (some ⟨d, 0, none⟩), .pointer (some ⟨d, 0, none⟩), .pointer (some ⟨d, 3, none⟩), .bool false, .bool false, .pointer (some ⟨d, 0, none⟩), .int .i64 p, .bool true, .bool false, .pointer (some ⟨d, 0, none⟩), .int .i64 p,
        .func (.func 44) #[] #[.pointer (some ⟨w.heap.size + 1, 0, none⟩), .pointer (some ⟨w.heap.size + 1 + 1, 0, none⟩)], pgv x.1, undef, undef], defers := [] })
    ?hAx ?assign ?body ?done ?stop
  case hAx =>
    rintro x a' s W W' row ⟨Bx, hx, hblk, ha⟩ hg hr
    refine ⟨Bx, hx, (hg.block Bx hblk.lt (fun e => ?_)).trans hblk, ha⟩
    obtain ⟨o, ho, hc⟩ := (hr _ e.symm).2
    rw [hblk] at ho
    cases ho
    cases hc
  case assign =>
    rintro l pre x W K ⟨⟨h1, h2⟩, h3⟩ hK
    have HST : Hid ((W.alloc (.cells zpg 64)).setCells W.heap.size 0 (x.1.map bv).toArray.toList = W.alloc (.cells (x.1.map bv).toArray 64)) := hide (setPage_new W (x.1.map bv) (by rw [List.length_map, x.2]) (hone_page x.1))
    have HTH : Hid ((W.alloc (.cells zpg 64)).there W.heap.size 0 (x.1.map bv).toArray.size) := hide (there_page W (by simp [x.2]))
    have HK := hide hK
    have HSZ := hide h3.size
    unfold pgv
    gi_wp2_with (refine wpListIn_store_mid rfl 64 (.tmp 7) (.tmp 21) rfl W.heap.size 0 (x.1.map bv).toArray rfl rfl HTH.out (by rw [info_arr]; simp [x.2]) (all_oneCell_toArray (hone_page x.1)) ?_; rw [HST.out])
    have hI : RdI W0 w.heap.size pre W := ⟨⟨h1, h2⟩, h3⟩
    exact HK.out _ _ ((KeepsOthers.alloc _ _).from _) (Hole.below ((Below.refl _ W).alloc (by have := HSZ.out; omega) _)) ((rdI_own hsz).alloc _ hI) ⟨W.heap.size, by have := HSZ.out; omega, Blk.new W _ _, rfl⟩
  case body =>
    rintro l pre x a' W hl ⟨r, hr⟩ ⟨⟨h1, h2⟩, h3⟩ ⟨Bx, hBx, hblk, rfl⟩ hlen
    have HRB : Hid (W.rangeAt Bx 0 (x.1.map bv)) := hide (fun j u hj => by rw [Nat.zero_add, hblk.cell]; simpa using hj)
    have HTH : Hid (W.there w.heap.size 0 (x.1.map bv).toArray.size) := hide (by simpa [x.2] using h2)
    have HI := hide h3
    have H2 := hide h2
    clear hr h1 h2 h3 hblk
    gi_wp2_with (first
      | (refine wpListIn_load_mid rfl 64 (.tmp 7) rfl Bx 0 rfl (x.1.map bv) _ HRB.out Try.underlying64 rfl (by rw [List.length_map, x.2]; exact info_arr) ?_)
      | (refine wpListIn_store_mid rfl 64 (.tmp 6) (.tmp 22) rfl w.heap.size 0 (x.1.map bv).toArray rfl rfl HTH.out (by rw [info_arr]; simp [x.2]) (all_oneCell_toArray (hone_page x.1)) ?_))
    have hW0W := HI.out.size
    refine ⟨keeps_setCells W 0 _ (by omega), (Hole.refl _ _ W).setCells 0 _ (by omega), ⟨?_, World.there_setCells H2.out _ _ _⟩, HI.out.trans ((Hole.refl _ _ W).setCells 0 _ (by omega))⟩
    rw [lastc_snoc]
    exact World.rangeAt_setCells_same W w.heap.size 0 (x.1.map bv).toArray.toList (by simpa using HTH.out)
  case done =>
    rintro D0 xs W hD hS ⟨⟨h1, h2⟩, h3⟩ hK
    have hsl := run_whole w.heap.size
    have H1 := hide h1
    have H2T := hide h2
    have H3 := hide h3
    have HS := hide hS
    clear h1 h2 h3 hS
    gi_wp2_with fail
    refine ⟨by simp, .inl ⟨_, _, rfl, run_takeDeferred hK, ?_⟩⟩
    refine ⟨_, results_tmp2 rfl _ _ _, .slice (some ⟨w.heap.size, 0, none⟩) 128 128, ?_, ?_, ?_, ?_, ?_⟩
    · rfl
    · rfl
    · have hl : (content D p).length = 128 := by
        have := lastc_len xs
        rw [lastc_all D p xs HS.out, List.length_map] at this; exact this
      refine ⟨some ⟨w.heap.size, 0, none⟩, 128, by rw [hl], by rw [hl]; exact Nat.le_refl _, by unfold maxLen; omega, fun _ => ⟨w.heap.size, 0, rfl, ?_, fun j hj => ?_⟩⟩
      · have := H3.out.size
        have := (grownBy_putObj' W D0 (.deferred none)).size
        omega
      · have e : (W.putObj D0 (.deferred none)).cell? ⟨w.heap.size, 0 + j, none⟩ = W.cell? ⟨w.heap.size, 0 + j, none⟩ := World.cell?_of_block ((grownBy_putObj' W D0 _).block w.heap.size (by have := H3.out.size; omega) (by intro e; injection e with e; omega))
        refine e.trans (H1.out j _ ?_)
        rw [lastc_all D p xs HS.out, List.getElem?_map, List.getElem?_eq_getElem hj]; rfl
    · intro j hj
      have eb := (grownBy_putObj' W D0 (.deferred none)).block w.heap.size (by have := H3.out.size; omega) (by intro e; injection e with e; omega)
      have e1 : (W.putObj D0 (.deferred none)).cell? ⟨w.heap.size, 0 + j, none⟩ = W.cell? ⟨w.heap.size, 0 + j, none⟩ := World.cell?_of_block eb
      have e2 : (W.putObj D0 (.deferred none)).frozen? ⟨w.heap.size, 0 + j, none⟩ = W.frozen? ⟨w.heap.size, 0 + j, none⟩ := World.frozen?_of_block eb
      rw [e1, e2]
      exact H2T.out j hj
    · have k1 : Below w.heap.size w W := kw0.trans ⟨H3.out.os, H3.out.tape, H3.out.output, H3.out.size, fun k hk => H3.out.block k (by omega) (by omega)⟩
      exact k1.grown (grownBy_putObj' W D0 _) k1.size (fun k e => by cases e; omega)
  case stop =>
    rintro D0 c pre W hD _ h hK
    exact h.elim


end
theorem Bs.own_lt2 {w : World} {g n c : Nat} {l : List UInt8} (h : Bs w (.slice (some ⟨g, 0, none⟩) n c) l) (h0 : l.length = 128) : g < w.heap.size := by
  obtain ⟨A, c, e, _, _, h3⟩ := h
  obtain ⟨b, off, rfl, hb, _⟩ := h3 (by omega)
  have e : g = b := by injection e with e; injection e with e; injection e
  omega
/-- Between two rounds of DiskClones. -/
def CnR (W : World) (d : Nat) (F3 : List Nat) (D3 : DS) (d2 : Nat) (vw : Value) (n : Nat) (v8 : Value) (w : World) : Prop :=
  ∃ (i : Nat) (F2 : List Nat) (D2 : DS), v8 = .int .i64 i ∧ i ≤ n ∧ Lw W d2 F2 D2 w ∧ Cl D2 D3.pages i ∧ Disk w d F3 D3 ∧ (∀ j ∈ F3, j ∉ F2) ∧ Aside w F2 vw (dContents D3)

set_option maxRecDepth 100000 in
set_option maxHeartbeats 8000000 in
theorem walkDiskClones (W : World) (v0 : Value) (l0 : List OpV) (h0 : OpsIn W v0 l0) (v1 : Value) (l1 : List OpV) (h1 : OpsIn W v1 l1) :
    Calls Try.prog 7 #[v0, v1] W fun e w' => e = .returned (.bool true) ∧ Below W.heap.size W w' := by
  obtain ⟨A0, n0, c0, rfl, hn0, _, _⟩ := h0.form
  obtain ⟨A1, n1, c1, rfl, hn1, hnc1, hcm1⟩ := h1.form
  have H0 := hide h0
  have H1 := hide h1
  have HF0 := hide (fun (X : World) (k : Below W.heap.size W X) => few_c _ l0 20 X (h0.step k))
  have HF1 := hide (fun (X : World) (k : Below W.heap.size W X) => few_c _ l1 20 X (h1.step k))
  by_cases hf0 : fewB l0 20 = true
  case neg =>
    have hf : fewB l0 20 = false := by simpa using hf0
    rw [hf] at HF0
    clear h0 h1 hf hf0
    go_enter Try.func7, Try.ntmps7
    go_wp2_with fail
    refine (awake_c _).mono ?_
    rintro e w1 ⟨rfl, hb1⟩
    go_wp2_with fail
    refine (HF0.out w1 hb1).mono ?_
    rintro e w2 ⟨rfl, rfl⟩
    go_wp2_with fail
    go_ret
    exact ⟨rfl, hb1⟩
  by_cases hf1 : fewB l1 20 = true
  case neg =>
    have hf : fewB l1 20 = false := by simpa using hf1
    rw [hf] at HF1
    rw [hf0] at HF0
    clear h0 h1 hf hf0 hf1
    go_enter Try.func7, Try.ntmps7
    go_wp2_with fail
    refine (awake_c _).mono ?_
    rintro e w1 ⟨rfl, hb1⟩
    go_wp2_with fail
    refine (HF0.out w1 hb1).mono ?_
    rintro e w2 ⟨rfl, rfl⟩
    go_wp2_with fail
    refine (HF1.out w1 hb1).mono ?_
    rintro e w2 ⟨rfl, rfl⟩
    go_wp2_with fail
    go_ret
    exact ⟨rfl, hb1⟩
  have hl0 := fewB_len (k := 20) hf0
  have hl1 := fewB_len (k := 20) hf1
  rw [hf0] at HF0
  rw [hf1] at HF1
  obtain ⟨_, hrp, hrq⟩ := dRun_len (D := dNew 6) l0 (dNew_ok 6) h0.all
  have hrp6 : (dRun (dNew 6) l0).pages.length = 6 := hrp.trans (by simp [dNew])
  have hrq20 : (dRun (dNew 6) l0).pend.length ≤ 20 := Nat.le_trans hrq (by simpa [dNew] using hl0)
  have HRU := hide (fun (X : World) (k : Below W.heap.size W X) => run_c _ l0 X (h0.step k) (by omega))
  have HNL : Hid (n1 ≤ 20) := hide (by rw [hn1.out]; exact hl1)
  generalize dRun (dNew 6) l0 = D at *
  have HRP := hide hrp6
  have HRQ := hide hrq20
  clear h0 h1 hf0 hf1 hl0 hl1 hrp hrq hrp6 hrq20
  go_enter Try.func7, Try.ntmps7
  go_wp2_with fail
  refine (awake_c _).mono ?_
  rintro e w1 ⟨rfl, hb1⟩
  have HB1 := hide hb1
  clear hb1
  go_wp2_with fail
  refine (HF0.out w1 HB1.out).mono ?_
  rintro e w2 ⟨rfl, rfl⟩
  go_wp2_with fail
  refine (HF1.out w1 HB1.out).mono ?_
  rintro e w2 ⟨rfl, rfl⟩
  go_wp2_with fail
  refine (HRU.out w1 HB1.out).mono ?_
  rintro e w2 ⟨d, F, rfl, hd, hlo, hb2⟩
  have HL : Hid (Lw W d F D w2) := hide ⟨hd, fun j hj => Nat.le_trans HB1.out.size (hlo j hj), HB1.out.trans (hb2.mono HB1.out.size)⟩
  clear hd hlo hb2 HF0 HF1 HRU
  go_wp2_with fail
  refine (crash_c d F D _ [] w2 HL.out.disk (Is.nil _) (fun j hj => by cases hj)).mono ?_
  rintro e w3 hdo
  obtain ⟨rfl, F3, hl3, _, _⟩ := HL.out.does hdo
  have HL3 := hide hl3
  have HC3 := hide (cl_crash D [])
  have HP3 : Hid ((dCrash D []).pages.length = 6) := hide ((dCrash_len HL.out.ok []).trans HRP.out)
  clear hdo hl3 HL
  generalize dCrash D [] = D3 at *
  go_wp2_with fail
  refine (contents_l d F3 D3 w3 HL3.out.disk HC3.out.failed (by rw [HP3.out]; decide)).mono ?_
  rintro e w6 ⟨vw, rfl, how, hb6⟩
  have HA6 : Hid (Aside w6 F3 vw (dContents D3)) := hide (Aside.new HL3.out.disk how)
  have HL6 := hide (HL3.out.step hb6)
  clear how hb6
  go_wp2_with fail
  refine (clone_c d F3 D3 w6 HL6.out.disk (by rw [HP3.out]; decide) (by have := HC3.out.pend; omega)).mono ?_
  rintro e w7 ⟨d2, F2, rfl, hne, hd2, hb7, hF2⟩
  have HL7 : Hid (Lw W d2 F2 D3 w7) := hide ⟨hd2, fun j hj => Nat.le_trans HL6.out.b.size (hF2 j hj), HL6.out.b.trans (hb7.mono HL6.out.b.size)⟩
  have HD7 := hide (HL6.out.disk.step hb7)
  have HNI7 : Hid (∀ j ∈ F3, j ∉ F2) := hide (fun j hj hm => by have h1 := hF2 j hm; have h2 := HL6.out.disk.lt j hj; omega)
  have HA7 : Hid (Aside w7 F2 vw (dContents D3)) := hide ⟨HA6.out.1.step hb7, fun j hj => ⟨Nat.lt_of_lt_of_le (HA6.out.2 j hj).1 hb7.size, fun hm => by have h1 := hF2 j hm; have h2 := (HA6.out.2 j hj).1; omega⟩⟩
  have HCC := hide (fun (X : World) (k : Below w7.heap.size w7 X) => contents_l d2 F2 D3 X (hd2.step k) HC3.out.failed (by rw [HP3.out]; decide))
  clear hne hd2 hb7 hF2
  go_wp2_with fail
  refine wp_region_held_drew (S := fun w' => (convert 28 9 vw).run Try.prog w' = .ok (.string ⟨(dContents D3).toArray⟩) w') (by kernel_rfl) (run_string_bs HA7.out.1.drew) (fun hS0 => ?_)
  refine wpAnyH_take (i := 0) (v := ?vna0) rfl (by kernel_rfl) (by kernel_rfl) (by kernel_rfl) (fun _ _ _ h => h) (Or.inl ⟨by rfl, ?hyna0⟩) (by assumption) ?restna0
  case hyna0 => (intro w hSw; (try dsimp only at hSw); go_simp; first | done | (with_reducible rfl))
  try simp only [Act.put, List.getElem_toArray, List.getElem_cons_zero, List.getElem_cons_succ, List.setIfInBounds_toArray, List.set_cons_zero, List.set_cons_succ]
  refine wpAnyH_take (i := 1) (v := ?vna1) rfl (by kernel_rfl) (by kernel_rfl) (by kernel_rfl) (fun _ _ _ h => h) (Or.inl ⟨by rfl, ?hyna1⟩) (by assumption) ?restna1
  case hyna1 => (intro w hSw; (try dsimp only at hSw); go_simp; first | done | (with_reducible rfl))
  try simp only [Act.put, List.getElem_toArray, List.getElem_cons_zero, List.getElem_cons_succ, List.setIfInBounds_toArray, List.set_cons_zero, List.set_cons_succ]
  refine wpAnyH_take (i := 2) (v := ?vna2) rfl (by kernel_rfl) (by kernel_rfl) (by kernel_rfl) (fun _ _ _ h => h) (Or.inl ⟨by rfl, ?hyna2⟩) (by assumption) ?restna2
  case hyna2 => (intro w hSw; (try dsimp only at hSw); go_simp; first | done | (with_reducible rfl))
  try simp only [Act.put, List.getElem_toArray, List.getElem_cons_zero, List.getElem_cons_succ, List.setIfInBounds_toArray, List.set_cons_zero, List.set_cons_succ]
  refine wpAnyH_take (i := 3) (v := ?vna3) rfl (by kernel_rfl) (by kernel_rfl) (by kernel_rfl) (fun _ _ _ h => h) (Or.inl ⟨by rfl, ?hyna3⟩) (by assumption) ?restna3
  case hyna3 => (intro w hSw; (try dsimp only at hSw); go_simp; first | done | (with_reducible rfl))
  try simp only [Act.put, List.getElem_toArray, List.getElem_cons_zero, List.getElem_cons_succ, List.setIfInBounds_toArray, List.set_cons_zero, List.set_cons_succ]
  refine wpAnyH_take (i := 6) (v := ?vna4) rfl (by kernel_rfl) (by kernel_rfl) (by kernel_rfl) (fun _ _ _ h => h) (Or.inl ⟨by rfl, ?hyna4⟩) (by assumption) ?restna4
  case hyna4 => (intro w hSw; (try dsimp only at hSw); go_simp; first | done | (with_reducible rfl))
  try simp only [Act.put, List.getElem_toArray, List.getElem_cons_zero, List.getElem_cons_succ, List.setIfInBounds_toArray, List.set_cons_zero, List.set_cons_succ]
  refine wpAnyH_take (i := 7) (v := ?vna5) rfl (by kernel_rfl) (by kernel_rfl) (by kernel_rfl) (fun _ _ _ h => h) (Or.inl ⟨by rfl, ?hyna5⟩) (by assumption) ?restna5
  case hyna5 => (intro w hSw; (try dsimp only at hSw); go_simp; first | done | (with_reducible rfl))
  try simp only [Act.put, List.getElem_toArray, List.getElem_cons_zero, List.getElem_cons_succ, List.setIfInBounds_toArray, List.set_cons_zero, List.set_cons_succ]
  refine wpAnyH_ready (rs := [4]) (by kernel_rfl) (by simp) ?_
  refine AllReadyH.cons rfl (fun K hK => ?_) AllReadyH.nil
  go_simp
  refine (HCC.out _ (Below.refl _ _).drew).mono ?_
  rintro e w8 ⟨v8x, rfl, how, hb8⟩
  have HV8 := hide how.bs
  have hb := (Below.refl w7.heap.size w7).drew.trans hb8
  have HA8 := hide (HA7.out.step hb)
  have HL8 := hide (HL7.out.step hb)
  have HD8 := hide (HD7.out.step hb)
  clear how hb8 hb
  refine hK.out _ _ (run_string_bs HA8.out.1) (fun hS6 => ?_)
  clear hK K
  refine heldMono (S' := (fun w' => (convert 28 9 vw).run Try.prog w' = .ok (.string ⟨(dContents D3).toArray⟩) w' ∧ (convert 28 9 v8x).run Try.prog w' = .ok (.string ⟨(dContents D3).toArray⟩) w')) (fun _ h => h.1) _ _ _ _ ?_
  have hT6 : (fun w' => (convert 28 9 vw).run Try.prog w' = .ok (.string ⟨(dContents D3).toArray⟩) w' ∧ (convert 28 9 v8x).run Try.prog w' = .ok (.string ⟨(dContents D3).toArray⟩) w') _ := ⟨run_string_bs HA8.out.1, run_string_bs HV8.out⟩
  try simp only [Act.put, List.getElem_toArray, List.getElem_cons_zero, List.getElem_cons_succ, List.setIfInBounds_toArray, List.set_cons_zero, List.set_cons_succ]
  refine wpAnyH_take (i := 5) (v := ?vna7) rfl (by kernel_rfl) (by kernel_rfl) (by kernel_rfl) (fun _ _ _ h => h) (Or.inl ⟨by rfl, ?hyna7⟩) (by assumption) ?restna7
  case hyna7 => (intro w hSw; (try dsimp only at hSw); go_simp; first | done | (with_reducible rfl))
  try simp only [Act.put, List.getElem_toArray, List.getElem_cons_zero, List.getElem_cons_succ, List.setIfInBounds_toArray, List.set_cons_zero, List.set_cons_succ]
  refine wpAnyH_take (i := 8) (v := ?vna8) rfl (by kernel_rfl) (by kernel_rfl) (by kernel_rfl) (fun _ _ _ h => h) (Or.inl ⟨by rfl, ?hyna8⟩) (by assumption) ?restna8
  case hyna8 => (intro w hSw; (try dsimp only at hSw); go_simp; first | done | (with_reducible rfl))
  try simp only [Act.put, List.getElem_toArray, List.getElem_cons_zero, List.getElem_cons_succ, List.setIfInBounds_toArray, List.set_cons_zero, List.set_cons_succ]
  refine wpAnyH_take (i := 9) (v := ?vna9) rfl (by kernel_rfl) (by kernel_rfl) (by kernel_rfl) (fun _ _ _ h => h) (Or.inl ⟨by rfl, ?hyna9⟩) (by assumption) ?restna9
  case hyna9 => (intro w hSw; (try dsimp only at hSw); go_simp; first | done | (with_reducible rfl))
  try simp only [Act.put, List.getElem_toArray, List.getElem_cons_zero, List.getElem_cons_succ, List.setIfInBounds_toArray, List.set_cons_zero, List.set_cons_succ]
  refine wpAnyH_done (by kernel_rfl) ?_ _
  go_wp2_with fail
  go_loopw [8] (fun v8 wr => CnR W d F3 D3 d2 vw n1 v8 wr) (fun v8 _ => n1 - (intOf v8).toNat)
  case atStart => exact ⟨0, F2, D3, rfl, Nat.zero_le _, HL8.out, HC3.out, HD8.out, HNI7.out, HA8.out⟩
  case round =>
    obtain ⟨i, F2, D2, rfl, hi, hlw, hcl, hdk, hni, has⟩ := hrel
    have HLW := hide hlw
    have HCL := hide hcl
    have HAS := hide has
    have HI := hide hi
    have HDK := hide hdk
    have HNI := hide hni
    by_cases hlt : i < n1
    · have hil : i < l1.length := by rw [← hn1.out]; exact hlt
      obtain ⟨gl, ol, rfl, hgl, hok, _⟩ := H1.out.at_ i hil
      have hxs : l1[i]? = some l1[i] := List.getElem?_eq_getElem hil
      generalize l1[i] = x at *
      obtain ⟨As, ms, cs, hsv, _, _, _⟩ := hok.surv.formN
      have HDA := hide (fun (X : World) (k : Below W.heap.size W X) => data_c x X (hok.step k))
      unfold OpV.val at HDA
      rw [hsv] at HDA
      have HOC : Hid (∀ X : World, Below W.heap.size W X → X.cell? ⟨gl, ol + i * 6, none⟩ = some (.int .i64 x.kind) ∧ X.cell? ⟨gl, ol + i * 6 + 1, none⟩ = some (.int .i64 x.page) ∧ X.cell? ⟨gl, ol + i * 6 + 2, none⟩ = some (.int .i64 x.n) ∧ X.cell? ⟨gl, ol + i * 6 + 3, none⟩ = some (.int .u8 x.fill) ∧ X.cell? ⟨gl, ol + i * 6 + 4, none⟩ = some (.int .u8 x.short) ∧ X.cell? ⟨gl, ol + i * 6 + 5, none⟩ = some (.slice As ms cs)) := hide (fun X k => op_cells H1.out hil x hxs hsv (fun a ha => k.cell (p := a) (by rw [ha]; exact hgl)))
      obtain ⟨o0, o1, o2, o3, o4, o5⟩ := HOC.out wr hlw.b
      have hki : (i : Int) < (n1 : Int) := by omega
      have HLT := hide hlt
      clear hil hok hxs hsv hgl hlt hlw hcl has hi hdk hni
      by_cases hk : x.kind = 0
      · have hk0 : (x.kind == 0) = true := by simpa using hk
        clear hk
        go_wp2_with fail
        refine wp_region_held_drew (S := fun w' => w'.cell? ⟨gl, ol + i * 6, none⟩ = some (.int .i64 x.kind) ∧ w'.cell? ⟨gl, ol + i * 6 + 1, none⟩ = some (.int .i64 x.page) ∧ w'.cell? ⟨gl, ol + i * 6 + 2, none⟩ = some (.int .i64 x.n) ∧ w'.cell? ⟨gl, ol + i * 6 + 3, none⟩ = some (.int .u8 x.fill) ∧ w'.cell? ⟨gl, ol + i * 6 + 4, none⟩ = some (.int .u8 x.short) ∧ w'.cell? ⟨gl, ol + i * 6 + 5, none⟩ = some (.slice As ms cs)) (by kernel_rfl) (HOC.out _ HLW.out.b.drew) (fun hS0 => ?_)
        refine wpAnyH_take (i := 0) (v := ?vnw0) rfl (by kernel_rfl) (by kernel_rfl) (by kernel_rfl) (fun _ _ _ h => h) (Or.inl ⟨by rfl, ?hynw0⟩) (by assumption) ?restnw0
        case hynw0 => (intro w hSw; (try dsimp only at hSw); go_simp; first | done | (with_reducible rfl))
        try simp only [Act.put, List.getElem_toArray, List.getElem_cons_zero, List.getElem_cons_succ, List.setIfInBounds_toArray, List.set_cons_zero, List.set_cons_succ]
        refine wpAnyH_take (i := 1) (v := ?vnw1) rfl (by kernel_rfl) (by kernel_rfl) (by kernel_rfl) (fun _ _ _ h => h) (Or.inl ⟨by rfl, ?hynw1⟩) (by assumption) ?restnw1
        case hynw1 => (intro w hSw; (try dsimp only at hSw); go_simp; first | done | (with_reducible rfl))
        try simp only [Act.put, List.getElem_toArray, List.getElem_cons_zero, List.getElem_cons_succ, List.setIfInBounds_toArray, List.set_cons_zero, List.set_cons_succ]
        refine wpAnyH_take (i := 2) (v := ?vnw2) rfl (by kernel_rfl) (by kernel_rfl) (by kernel_rfl) (fun _ _ _ h => h) (Or.inl ⟨by rfl, ?hynw2⟩) (by assumption) ?restnw2
        case hynw2 => (intro w hSw; (try dsimp only at hSw); go_simp; first | done | (with_reducible rfl))
        try simp only [Act.put, List.getElem_toArray, List.getElem_cons_zero, List.getElem_cons_succ, List.setIfInBounds_toArray, List.set_cons_zero, List.set_cons_succ]
        refine wpAnyH_take (i := 3) (v := ?vnw3) rfl (by kernel_rfl) (by kernel_rfl) (by kernel_rfl) (fun _ _ _ h => h) (Or.inl ⟨by rfl, ?hynw3⟩) (by assumption) ?restnw3
        case hynw3 => (intro w hSw; (try dsimp only at hSw); go_simp; first | done | (with_reducible rfl))
        try simp only [Act.put, List.getElem_toArray, List.getElem_cons_zero, List.getElem_cons_succ, List.setIfInBounds_toArray, List.set_cons_zero, List.set_cons_succ]
        refine wpAnyH_take (i := 4) (v := ?vnw4) rfl (by kernel_rfl) (by kernel_rfl) (by kernel_rfl) (fun _ _ _ h => h) (Or.inl ⟨by rfl, ?hynw4⟩) (by assumption) ?restnw4
        case hynw4 => (intro w hSw; (try dsimp only at hSw); go_simp; first | done | (with_reducible rfl))
        try simp only [Act.put, List.getElem_toArray, List.getElem_cons_zero, List.getElem_cons_succ, List.setIfInBounds_toArray, List.set_cons_zero, List.set_cons_succ]
        refine wpAnyH_take (i := 5) (v := ?vnw5) rfl (by kernel_rfl) (by kernel_rfl) (by kernel_rfl) (fun _ _ _ h => h) (Or.inl ⟨by rfl, ?hynw5⟩) (by assumption) ?restnw5
        case hynw5 => (intro w hSw; (try dsimp only at hSw); go_simp; first | done | (with_reducible rfl))
        try simp only [Act.put, List.getElem_toArray, List.getElem_cons_zero, List.getElem_cons_succ, List.setIfInBounds_toArray, List.set_cons_zero, List.set_cons_succ]
        refine wpAnyH_take (i := 6) (v := ?vnw6) rfl (by kernel_rfl) (by kernel_rfl) (by kernel_rfl) (fun _ _ _ h => h) (Or.inl ⟨by rfl, ?hynw6⟩) (by assumption) ?restnw6
        case hynw6 => (intro w hSw; (try dsimp only at hSw); go_simp; first | done | (with_reducible rfl))
        try simp only [Act.put, List.getElem_toArray, List.getElem_cons_zero, List.getElem_cons_succ, List.setIfInBounds_toArray, List.set_cons_zero, List.set_cons_succ]
        refine wpAnyH_take (i := 7) (v := ?vnw7) rfl (by kernel_rfl) (by kernel_rfl) (by kernel_rfl) (fun _ _ _ h => h) (Or.inl ⟨by rfl, ?hynw7⟩) (by assumption) ?restnw7
        case hynw7 => (intro w hSw; (try dsimp only at hSw); go_simp; first | done | (with_reducible rfl))
        try simp only [Act.put, List.getElem_toArray, List.getElem_cons_zero, List.getElem_cons_succ, List.setIfInBounds_toArray, List.set_cons_zero, List.set_cons_succ]
        refine wpAnyH_take (i := 8) (v := ?vnw8) rfl (by kernel_rfl) (by kernel_rfl) (by kernel_rfl) (fun _ _ _ h => h) (Or.inl ⟨by rfl, ?hynw8⟩) (by assumption) ?restnw8
        case hynw8 => (intro w hSw; (try dsimp only at hSw); go_simp; first | done | (with_reducible rfl))
        try simp only [Act.put, List.getElem_toArray, List.getElem_cons_zero, List.getElem_cons_succ, List.setIfInBounds_toArray, List.set_cons_zero, List.set_cons_succ]
        refine wpAnyH_take (i := 9) (v := ?vnw9) rfl (by kernel_rfl) (by kernel_rfl) (by kernel_rfl) (fun _ _ _ h => h) (Or.inl ⟨by rfl, ?hynw9⟩) (by assumption) ?restnw9
        case hynw9 => (intro w hSw; (try dsimp only at hSw); go_simp; first | done | (with_reducible rfl))
        try simp only [Act.put, List.getElem_toArray, List.getElem_cons_zero, List.getElem_cons_succ, List.setIfInBounds_toArray, List.set_cons_zero, List.set_cons_succ]
        refine wpAnyH_ready (rs := [10]) (by kernel_rfl) (by simp) ?_
        refine AllReadyH.cons rfl (fun K hK => ?_) AllReadyH.nil
        go_simp
        refine (HDA.out _ HLW.out.b.drew).mono ?_
        rintro e Wd ⟨vd, rfl, how, hbd⟩
        have HV := hide how
        have HLD := hide ((HLW.out.step (Below.refl _ _).drew).step hbd)
        have HAD := hide ((HAS.out.step (Below.refl _ _).drew).step hbd)
        have HDD := hide ((HDK.out.step (Below.refl _ _).drew).step hbd)
        have HSD : Hid (wr.heap.size ≤ Wd.heap.size) := hide hbd.size
        clear how hbd
        refine hK.out _ _ (HOC.out _ HLD.out.b) (fun hS10 => ?_)
        clear hK K
        try simp only [Act.put, List.getElem_toArray, List.getElem_cons_zero, List.getElem_cons_succ, List.setIfInBounds_toArray, List.set_cons_zero, List.set_cons_succ]
        refine wpAnyH_ready (rs := [11]) (by kernel_rfl) (by simp) ?_
        refine AllReadyH.cons rfl (fun K hK => ?_) AllReadyH.nil
        go_simp
        refine (write_c d2 F2 D2 x.page vd (dataOf x) Wd HLD.out.disk HV.out.bs (fun _ j hj => by have h1 := HV.out.lt j hj; exact ⟨fun hm => by have h2 := HLW.out.disk.lt j hm; have h3 : wr.heap.size ≤ j := h1.1; omega, h1.2⟩) (by have := HCL.out.pend; have := HNL.out; have := HLT.out; omega)).mono ?_
        rintro e Wx hdo
        obtain ⟨rfl, F9, hl2, ht2, hF2⟩ := HLD.out.does hdo
        have HL2 := hide hl2
        have HA2 := hide (HAD.out.touch ht2 hF2)
        have HD2 := hide (HDD.out.touch ht2 HNI.out)
        have HN2 : Hid (∀ j ∈ F3, j ∉ F9) := hide (fun j hj hm => by rcases hF2 j hm with e | e; exact HNI.out j hj e; (have := HDD.out.lt j hj; omega))
        clear hdo hl2 ht2 hF2
        refine hK.out _ _ (HOC.out _ HL2.out.b) (fun hS11 => ?_)
        clear hK K
        try simp only [Act.put, List.getElem_toArray, List.getElem_cons_zero, List.getElem_cons_succ, List.setIfInBounds_toArray, List.set_cons_zero, List.set_cons_succ]
        refine wpAnyH_done (by kernel_rfl) ?_ _
        go_wp2_with fail
        go_roundw
        case rel => exact ⟨i + 1, F9, _, by go_num, by have := HLT.out; omega, HL2.out, cl_write HCL.out _ _, HD2.out, HN2.out, HA2.out⟩
        case measure => have := HLT.out; simp [intOf]; omega
      · have hk0 : (x.kind == 0) = false := by simpa using hk
        clear hk
        go_wp2_with fail
        go_roundw
        case rel => exact ⟨i + 1, F2, D2, by go_num, by have := HLT.out; omega, HLW.out, ⟨HCL.out.pages, HCL.out.failed, HCL.out.fuse, Nat.le_succ_of_le HCL.out.pend⟩, HDK.out, HNI.out, HAS.out⟩
        case measure => have := HLT.out; simp [intOf]; omega
    · obtain rfl : i = n1 := by have := HI.out; omega
      clear hlt hlw hcl has hi hdk hni
      have hcs := cl_sync HCL.out
      have HS := hide (fun (X : World) (hX : Disk X d2 F2 D2) => sync_c d2 F2 D2 X hX)
      rw [hcs.1] at HS
      have HP5 : Hid ((dSync D2).1.pages.length = 6) := hide ((dSync_len HLW.out.ok).trans (by rw [HCL.out.pages]; exact HP3.out))
      have HC5 := hide hcs.2
      have HPD := hide (fun (X : World) (hX : Disk X d F3 D3) => pending_c d F3 D3 X hX)
      rw [show D3.pend.length = 0 from Nat.le_zero.1 HC3.out.pend] at HPD
      have HCD := hide (fun (X : World) (hX : Disk X d F3 D3) => contents_l d F3 D3 X hX HC3.out.failed (by rw [HP3.out]; decide))
      generalize (dSync D2).1 = D5 at *
      clear hcs
      go_wp2_with fail
      refine wp_region_held_drew (S := fun w' => (convert 28 9 vw).run Try.prog w' = .ok (.string ⟨(dContents D3).toArray⟩) w') (by kernel_rfl) (run_string_bs HAS.out.1.drew) (fun hS0 => ?_)
      refine wpAnyH_take (i := 0) (v := ?vnb0) rfl (by kernel_rfl) (by kernel_rfl) (by kernel_rfl) (fun _ _ _ h => h) (Or.inl ⟨by rfl, ?hynb0⟩) (by assumption) ?restnb0
      case hynb0 => (intro w hSw; (try dsimp only at hSw); go_simp; first | done | (with_reducible rfl))
      try simp only [Act.put, List.getElem_toArray, List.getElem_cons_zero, List.getElem_cons_succ, List.setIfInBounds_toArray, List.set_cons_zero, List.set_cons_succ]
      refine wpAnyH_ready (rs := [1]) (by kernel_rfl) (by simp) ?_
      refine AllReadyH.cons rfl (fun K hK => ?_) AllReadyH.nil
      go_simp
      refine (HS.out _ (HLW.out.disk.step (Below.refl _ _).drew)).mono ?_
      rintro e w9 hdo
      obtain ⟨rfl, F9, hl9, ht9, hF9⟩ := (HLW.out.step (Below.refl _ _).drew).does hdo
      have HL9 := hide hl9
      have HA9 := hide ((HAS.out.step (Below.refl _ _).drew).touch ht9 hF9)
      have HD9 := hide ((HDK.out.step (Below.refl _ _).drew).touch ht9 HNI.out)
      clear hdo hl9 ht9 hF9
      refine hK.out _ _ (run_string_bs HA9.out.1) (fun hS1 => ?_)
      clear hK K
      try simp only [Act.put, List.getElem_toArray, List.getElem_cons_zero, List.getElem_cons_succ, List.setIfInBounds_toArray, List.set_cons_zero, List.set_cons_succ]
      refine wpAnyH_take (i := 2) (v := ?vnb2) rfl (by kernel_rfl) (by kernel_rfl) (by kernel_rfl) (fun _ _ _ h => h) (Or.inl ⟨by rfl, ?hynb2⟩) (by assumption) ?restnb2
      case hynb2 => (intro w hSw; (try dsimp only at hSw); go_simp; first | done | (with_reducible rfl))
      try simp only [Act.put, List.getElem_toArray, List.getElem_cons_zero, List.getElem_cons_succ, List.setIfInBounds_toArray, List.set_cons_zero, List.set_cons_succ]
      refine wpAnyH_take (i := 3) (v := ?vnb3) rfl (by kernel_rfl) (by kernel_rfl) (by kernel_rfl) (fun _ _ _ h => h) (Or.inl ⟨by rfl, ?hynb3⟩) (by assumption) ?restnb3
      case hynb3 => (intro w hSw; (try dsimp only at hSw); go_simp; first | done | (with_reducible rfl))
      try simp only [Act.put, List.getElem_toArray, List.getElem_cons_zero, List.getElem_cons_succ, List.setIfInBounds_toArray, List.set_cons_zero, List.set_cons_succ]
      refine wpAnyH_take (i := 4) (v := ?vnb4) rfl (by kernel_rfl) (by kernel_rfl) (by kernel_rfl) (fun _ _ _ h => h) (Or.inl ⟨by rfl, ?hynb4⟩) (by assumption) ?restnb4
      case hynb4 => (intro w hSw; (try dsimp only at hSw); go_simp; first | done | (with_reducible rfl))
      try simp only [Act.put, List.getElem_toArray, List.getElem_cons_zero, List.getElem_cons_succ, List.setIfInBounds_toArray, List.set_cons_zero, List.set_cons_succ]
      refine wpAnyH_take (i := 7) (v := ?vnb5) rfl (by kernel_rfl) (by kernel_rfl) (by kernel_rfl) (fun _ _ _ h => h) (Or.inl ⟨by rfl, ?hynb5⟩) (by assumption) ?restnb5
      case hynb5 => (intro w hSw; (try dsimp only at hSw); go_simp; first | done | (with_reducible rfl))
      try simp only [Act.put, List.getElem_toArray, List.getElem_cons_zero, List.getElem_cons_succ, List.setIfInBounds_toArray, List.set_cons_zero, List.set_cons_succ]
      refine wpAnyH_take (i := 8) (v := ?vnb6) rfl (by kernel_rfl) (by kernel_rfl) (by kernel_rfl) (fun _ _ _ h => h) (Or.inl ⟨by rfl, ?hynb6⟩) (by assumption) ?restnb6
      case hynb6 => (intro w hSw; (try dsimp only at hSw); go_simp; first | done | (with_reducible rfl))
      try simp only [Act.put, List.getElem_toArray, List.getElem_cons_zero, List.getElem_cons_succ, List.setIfInBounds_toArray, List.set_cons_zero, List.set_cons_succ]
      refine wpAnyH_ready (rs := [5]) (by kernel_rfl) (by simp) ?_
      refine AllReadyH.cons rfl (fun K hK => ?_) AllReadyH.nil
      go_simp
      refine (HCD.out _ HD9.out).mono ?_
      rintro e w10 ⟨v10, rfl, how, hb10⟩
      have HV10 := hide how.bs
      have HA10 := hide (HA9.out.step hb10)
      have HL10 := hide (HL9.out.step hb10)
      have HD10 := hide (HD9.out.step hb10)
      clear how hb10
      refine hK.out _ _ (run_string_bs HA10.out.1) (fun hS7 => ?_)
      clear hK K
      refine heldMono (S' := (fun w' => (convert 28 9 vw).run Try.prog w' = .ok (.string ⟨(dContents D3).toArray⟩) w' ∧ (convert 28 9 v10).run Try.prog w' = .ok (.string ⟨(dContents D3).toArray⟩) w')) (fun _ h => h.1) _ _ _ _ ?_
      have hT7 : (fun w' => (convert 28 9 vw).run Try.prog w' = .ok (.string ⟨(dContents D3).toArray⟩) w' ∧ (convert 28 9 v10).run Try.prog w' = .ok (.string ⟨(dContents D3).toArray⟩) w') _ := ⟨run_string_bs HA10.out.1, run_string_bs HV10.out⟩
      try simp only [Act.put, List.getElem_toArray, List.getElem_cons_zero, List.getElem_cons_succ, List.setIfInBounds_toArray, List.set_cons_zero, List.set_cons_succ]
      refine wpAnyH_take (i := 6) (v := ?vnb8) rfl (by kernel_rfl) (by kernel_rfl) (by kernel_rfl) (fun _ _ _ h => h) (Or.inl ⟨by rfl, ?hynb8⟩) (by assumption) ?restnb8
      case hynb8 => (intro w hSw; (try dsimp only at hSw); go_simp; first | done | (with_reducible rfl))
      try simp only [Act.put, List.getElem_toArray, List.getElem_cons_zero, List.getElem_cons_succ, List.setIfInBounds_toArray, List.set_cons_zero, List.set_cons_succ]
      refine wpAnyH_take (i := 9) (v := ?vnb9) rfl (by kernel_rfl) (by kernel_rfl) (by kernel_rfl) (fun _ _ _ h => h) (Or.inl ⟨by rfl, ?hynb9⟩) (by assumption) ?restnb9
      case hynb9 => (intro w hSw; (try dsimp only at hSw); go_simp; first | done | (with_reducible rfl))
      try simp only [Act.put, List.getElem_toArray, List.getElem_cons_zero, List.getElem_cons_succ, List.setIfInBounds_toArray, List.set_cons_zero, List.set_cons_succ]
      refine wpAnyH_take (i := 10) (v := ?vnb10) rfl (by kernel_rfl) (by kernel_rfl) (by kernel_rfl) (fun _ _ _ h => h) (Or.inl ⟨by rfl, ?hynb10⟩) (by assumption) ?restnb10
      case hynb10 => (intro w hSw; (try dsimp only at hSw); go_simp; first | done | (with_reducible rfl))
      try simp only [Act.put, List.getElem_toArray, List.getElem_cons_zero, List.getElem_cons_succ, List.setIfInBounds_toArray, List.set_cons_zero, List.set_cons_succ]
      refine wpAnyH_take (i := 11) (v := ?vnb11) rfl (by kernel_rfl) (by kernel_rfl) (by kernel_rfl) (fun _ _ _ h => h) (Or.inl ⟨by rfl, ?hynb11⟩) (by assumption) ?restnb11
      case hynb11 => (intro w hSw; (try dsimp only at hSw); go_simp; first | done | (with_reducible rfl))
      try simp only [Act.put, List.getElem_toArray, List.getElem_cons_zero, List.getElem_cons_succ, List.setIfInBounds_toArray, List.set_cons_zero, List.set_cons_succ]
      refine wpAnyH_take (i := 12) (v := ?vnb12) rfl (by kernel_rfl) (by kernel_rfl) (by kernel_rfl) (fun _ _ _ h => h) (Or.inl ⟨by rfl, ?hynb12⟩) (by assumption) ?restnb12
      case hynb12 => (intro w hSw; (try dsimp only at hSw); go_simp; first | done | (with_reducible rfl))
      try simp only [Act.put, List.getElem_toArray, List.getElem_cons_zero, List.getElem_cons_succ, List.setIfInBounds_toArray, List.set_cons_zero, List.set_cons_succ]
      refine wpAnyH_ready (rs := [13]) (by kernel_rfl) (by simp) ?_
      refine AllReadyH.cons rfl (fun K hK => ?_) AllReadyH.nil
      go_simp
      refine (HPD.out _ HD10.out).mono ?_
      rintro e wz ⟨rfl, rfl⟩
      refine hK.out _ _ (⟨run_string_bs HA10.out.1, run_string_bs HV10.out⟩) (fun hS13 => ?_)
      clear hK K
      try simp only [Act.put, List.getElem_toArray, List.getElem_cons_zero, List.getElem_cons_succ, List.setIfInBounds_toArray, List.set_cons_zero, List.set_cons_succ]
      refine wpAnyH_take (i := 14) (v := ?vnb14) rfl (by kernel_rfl) (by kernel_rfl) (by kernel_rfl) (fun _ _ _ h => h) (Or.inl ⟨by rfl, ?hynb14⟩) (by assumption) ?restnb14
      case hynb14 => (intro w hSw; (try dsimp only at hSw); go_simp; first | done | (with_reducible rfl))
      try simp only [Act.put, List.getElem_toArray, List.getElem_cons_zero, List.getElem_cons_succ, List.setIfInBounds_toArray, List.set_cons_zero, List.set_cons_succ]
      refine wpAnyH_take (i := 15) (v := ?vnb15) rfl (by kernel_rfl) (by kernel_rfl) (by kernel_rfl) (fun _ _ _ h => h) (Or.inl ⟨by rfl, ?hynb15⟩) (by assumption) ?restnb15
      case hynb15 => (intro w hSw; (try dsimp only at hSw); go_simp; first | done | (with_reducible rfl))
      try simp only [Act.put, List.getElem_toArray, List.getElem_cons_zero, List.getElem_cons_succ, List.setIfInBounds_toArray, List.set_cons_zero, List.set_cons_succ]
      refine wpAnyH_done (by kernel_rfl) ?_ _
      have HRB : Hid (Calls Try.prog 15 #[.pointer (some ⟨d2, 0, none⟩), .int .i64 0] w10 (ReadB w10 D5 0)) := hide (read_okB d2 F9 D5 0 w10 HL10.out.disk HC5.out.failed (by rw [HP5.out]; decide))
      go_wp2_with fail
      refine HRB.out.mono ?_
      rintro e w11 ⟨vb, rfl, rfl, hbs, hth, hb11⟩
      have hcl5 : (content D5 0).length = 128 := content_len HL10.out.ok 0 (by rw [HP5.out]; decide)
      obtain ⟨y, hy⟩ : ∃ y, (content D5 0)[0]? = some y := ⟨_, List.getElem?_eq_getElem (by rw [hcl5]; decide)⟩
      obtain ⟨bb, ob, yb, eb, _, hyb, cb⟩ := hbs.at_ (k := 0) (by decide)
      obtain ⟨rfl, rfl⟩ : w10.heap.size = bb ∧ 0 = ob := by injection eb with eb; injection eb with e1 e2; exact ⟨e1, e2⟩
      obtain rfl : yb = y := by rw [hy] at hyb; injection hyb with hyb; exact hyb.symm
      have fb := (hth 0 (by decide)).2
      rw [Nat.zero_add] at cb fb
      have HL11 := hide (HL10.out.step hb11)
      have HFL := hide HL10.out.disk.lt
      have HY := hide hy
      have HYB := hide (u8_lt yb)
      have hyb0 : 0 ≤ Go.Proofs.Ytlpnichgfhgdmaa.u8 yb := (u8_lt yb).1
      have hyb1 : Go.Proofs.Ytlpnichgfhgdmaa.u8 yb ≤ 255 := (u8_lt yb).2
      have HB11S : Hid (w10.heap.size < w11.heap.size) := hide (Bs.own_lt2 hbs hcl5)
      have HGB : Hid (w11.cell? ⟨w10.heap.size, 0, none⟩ = some (.int .u8 (Go.Proofs.Ytlpnichgfhgdmaa.u8 yb))) := hide cb
      clear hbs hth hb11 hcl5 hy eb hyb HRB
      go_wp2_with fail
      have T12 : Touch [w10.heap.size] w11 (w11.setCell ⟨w10.heap.size, 0, none⟩ (.int .u8 ((Go.Proofs.Ytlpnichgfhgdmaa.u8 yb + 1) % 256))) := (Touch.refl _ _).set (by simp) 0 _
      have hg12 : (w11.setCell ⟨w10.heap.size, 0, none⟩ (.int .u8 ((Go.Proofs.Ytlpnichgfhgdmaa.u8 yb + 1) % 256))).cell? ⟨w10.heap.size, 0, none⟩ = some (.int .u8 ((Go.Proofs.Ytlpnichgfhgdmaa.u8 yb + 1) % 256)) := World.cell?_setCell_same _ _ _ (by rw [cb])
      generalize w11.setCell ⟨w10.heap.size, 0, none⟩ (.int .u8 ((Go.Proofs.Ytlpnichgfhgdmaa.u8 yb + 1) % 256)) = w12 at *
      have HL12 : Hid (Disk w12 d2 F9 D5) := hide (HL11.out.disk.touch T12 (fun j hj hm => by simp at hm; subst hm; have := HFL.out _ hj; omega))
      have HB12 : Hid (Below W.heap.size W w12) := hide (Below.touch HL11.out.b T12 (fun s hs => by simp at hs; subst hs; exact HL10.out.b.size) HL11.out.b.size)
      have HG12 := hide hg12
      have HS12 : Hid (w10.heap.size < w12.heap.size) := hide (Nat.lt_of_lt_of_le HB11S.out T12.size)
      have HRC : Hid (Calls Try.prog 15 #[.pointer (some ⟨d2, 0, none⟩), .int .i64 0] w12 (ReadB w12 D5 0)) := hide (read_okB d2 F9 D5 0 w12 HL12.out HC5.out.failed (by rw [HP5.out]; decide))
      clear T12 hg12 cb fb
      refine HRC.out.mono ?_
      rintro e w13 ⟨vc, rfl, rfl, hbs, _, hb13⟩
      obtain ⟨bb, ob, yc, eb, _, hyc, cc⟩ := hbs.at_ (k := 0) (by decide)
      obtain ⟨rfl, rfl⟩ : w12.heap.size = bb ∧ 0 = ob := by injection eb with eb; injection eb with e1 e2; exact ⟨e1, e2⟩
      obtain rfl : yc = yb := by have h := HY.out; rw [h] at hyc; injection hyc with hyc; exact hyc.symm
      rw [Nat.zero_add] at cc
      have gg : w13.cell? ⟨w10.heap.size, 0, none⟩ = some (.int .u8 ((Go.Proofs.Ytlpnichgfhgdmaa.u8 yc + 1) % 256)) := (hb13.cell (p := ⟨w10.heap.size, 0, none⟩) HS12.out).trans HG12.out
      have HB13 := hide (HB12.out.trans (hb13.mono HB12.out.size))
      have hne : (Go.Proofs.Ytlpnichgfhgdmaa.u8 yc != (Go.Proofs.Ytlpnichgfhgdmaa.u8 yc + 1) % 256) = true := by
        simp only [bne_iff_ne, ne_eq]
        omega
      clear hbs hb13 eb hyc HRC
      go_wp2_with fail
      refine wp_region_held_drew (S := fun w' => w'.cell? ⟨w12.heap.size, 0, none⟩ = some (.int .u8 (Go.Proofs.Ytlpnichgfhgdmaa.u8 yc)) ∧ w'.cell? ⟨w10.heap.size, 0, none⟩ = some (.int .u8 ((Go.Proofs.Ytlpnichgfhgdmaa.u8 yc + 1) % 256))) (by kernel_rfl) (⟨cc, gg⟩) (fun hS0 => ?_)
      refine wpAnyH_take (i := 0) (v := ?vnz0) rfl (by kernel_rfl) (by kernel_rfl) (by kernel_rfl) (fun _ _ _ h => h) (Or.inl ⟨by rfl, ?hynz0⟩) (by assumption) ?restnz0
      case hynz0 => (intro w hSw; (try dsimp only at hSw); go_simp; first | done | (with_reducible rfl))
      try simp only [Act.put, List.getElem_toArray, List.getElem_cons_zero, List.getElem_cons_succ, List.setIfInBounds_toArray, List.set_cons_zero, List.set_cons_succ]
      refine wpAnyH_take (i := 1) (v := ?vnz1) rfl (by kernel_rfl) (by kernel_rfl) (by kernel_rfl) (fun _ _ _ h => h) (Or.inl ⟨by rfl, ?hynz1⟩) (by assumption) ?restnz1
      case hynz1 => (intro w hSw; (try dsimp only at hSw); go_simp; first | done | (with_reducible rfl))
      try simp only [Act.put, List.getElem_toArray, List.getElem_cons_zero, List.getElem_cons_succ, List.setIfInBounds_toArray, List.set_cons_zero, List.set_cons_succ]
      refine wpAnyH_take (i := 2) (v := ?vnz2) rfl (by kernel_rfl) (by kernel_rfl) (by kernel_rfl) (fun _ _ _ h => h) (Or.inl ⟨by rfl, ?hynz2⟩) (by assumption) ?restnz2
      case hynz2 => (intro w hSw; (try dsimp only at hSw); go_simp; first | done | (with_reducible rfl))
      try simp only [Act.put, List.getElem_toArray, List.getElem_cons_zero, List.getElem_cons_succ, List.setIfInBounds_toArray, List.set_cons_zero, List.set_cons_succ]
      refine wpAnyH_take (i := 3) (v := ?vnz3) rfl (by kernel_rfl) (by kernel_rfl) (by kernel_rfl) (fun _ _ _ h => h) (Or.inl ⟨by rfl, ?hynz3⟩) (by assumption) ?restnz3
      case hynz3 => (intro w hSw; (try dsimp only at hSw); go_simp; first | done | (with_reducible rfl))
      try simp only [Act.put, List.getElem_toArray, List.getElem_cons_zero, List.getElem_cons_succ, List.setIfInBounds_toArray, List.set_cons_zero, List.set_cons_succ]
      refine wpAnyH_take (i := 4) (v := ?vnz4) rfl (by kernel_rfl) (by kernel_rfl) (by kernel_rfl) (fun _ _ _ h => h) (Or.inl ⟨by rfl, ?hynz4⟩) (by assumption) ?restnz4
      case hynz4 => (intro w hSw; (try dsimp only at hSw); go_simp; first | done | (with_reducible rfl))
      try simp only [Act.put, List.getElem_toArray, List.getElem_cons_zero, List.getElem_cons_succ, List.setIfInBounds_toArray, List.set_cons_zero, List.set_cons_succ]
      refine wpAnyH_take (i := 5) (v := ?vnz5) rfl (by kernel_rfl) (by kernel_rfl) (by kernel_rfl) (fun _ _ _ h => h) (Or.inl ⟨by rfl, ?hynz5⟩) (by assumption) ?restnz5
      case hynz5 => (intro w hSw; (try dsimp only at hSw); go_simp; first | done | (with_reducible rfl))
      try simp only [Act.put, List.getElem_toArray, List.getElem_cons_zero, List.getElem_cons_succ, List.setIfInBounds_toArray, List.set_cons_zero, List.set_cons_succ]
      refine wpAnyH_take (i := 6) (v := ?vnz6) rfl (by kernel_rfl) (by kernel_rfl) (by kernel_rfl) (fun _ _ _ h => h) (Or.inl ⟨by rfl, ?hynz6⟩) (by assumption) ?restnz6
      case hynz6 => (intro w hSw; (try dsimp only at hSw); go_simp; first | done | (with_reducible rfl))
      try simp only [Act.put, List.getElem_toArray, List.getElem_cons_zero, List.getElem_cons_succ, List.setIfInBounds_toArray, List.set_cons_zero, List.set_cons_succ]
      refine wpAnyH_take (i := 7) (v := ?vnz7) rfl (by kernel_rfl) (by kernel_rfl) (by kernel_rfl) (fun _ _ _ h => h) (Or.inl ⟨by rfl, ?hynz7⟩) (by assumption) ?restnz7
      case hynz7 => (intro w hSw; (try dsimp only at hSw); go_simp; first | done | (with_reducible rfl))
      try simp only [Act.put, List.getElem_toArray, List.getElem_cons_zero, List.getElem_cons_succ, List.setIfInBounds_toArray, List.set_cons_zero, List.set_cons_succ]
      refine wpAnyH_done (by kernel_rfl) ?_ _
      go_wp2_with fail
      go_ret
      exact ⟨by first | rfl | simp | (simp [hne]), HB13.out.drew⟩
end Go.Proofs.Ytlpnichgfhgdmaa
