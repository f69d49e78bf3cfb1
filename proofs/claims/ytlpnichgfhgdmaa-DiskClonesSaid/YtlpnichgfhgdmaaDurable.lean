/- DiskDurable: what was synced is read after a crash without survivors. -/
import Derived.Test.YtlpnichgfhgdmaaRun
import Derived.Test.YtlpnichgfhgdmaaAwake
namespace Go.Proofs.Ytlpnichgfhgdmaa
open Go.ChangeShapes Go.WideShapes Go.ChangeAt Go.RowKit
set_option linter.unusedVariables false
set_option linter.unusedSimpArgs false

/-- A disk of the law's own. -/
structure Lw (W : World) (d : Nat) (F : List Nat) (D : DS) (w : World) : Prop where
  disk : Disk w d F D
  lo : ∀ j ∈ F, W.heap.size ≤ j
  b : Below W.heap.size W w
theorem Lw.does {W w w' : World} {d : Nat} {F : List Nat} {D D' : DS} {v : Value} {e : Ending} (h : Lw W d F D w) (k : Does w d F D' v e w') : e = .returned v ∧ ∃ F', Lw W d F' D' w' ∧ Touch F w w' ∧ ∀ j ∈ F', j ∈ F ∨ w.heap.size ≤ j := by
  obtain ⟨rfl, F', hd, ht, hF⟩ := k
  refine ⟨rfl, F', ⟨hd, fun j hj => ?_, Below.touch h.b ht h.lo h.b.size⟩, ht, hF⟩
  rcases hF j hj with e | e
  · exact h.lo j e
  · have := h.b.size; omega
theorem Lw.step {W w w' : World} {d : Nat} {F : List Nat} {D : DS} (h : Lw W d F D w) (k : Below w.heap.size w w') : Lw W d F D w' := ⟨h.disk.step k, h.lo, h.b.trans (k.mono h.b.size)⟩
/-- A slice of bytes that a disk does not touch. -/
def Aside (w : World) (F : List Nat) (v : Value) (l : List UInt8) : Prop := Bs w v l ∧ Apart w F v
theorem Aside.touch {w w' : World} {F F' : List Nat} {v : Value} {l : List UInt8} (h : Aside w F v l) (k : Touch F w w') (hF : ∀ j ∈ F', j ∈ F ∨ w.heap.size ≤ j) : Aside w' F' v l :=
  ⟨h.1.touch k (fun j hj => (h.2 j hj).2), h.2.touch k hF⟩
theorem Aside.step {w w' : World} {F : List Nat} {v : Value} {l : List UInt8} (h : Aside w F v l) (k : Below w.heap.size w w') : Aside w' F v l := h.touch (Touch.below k F) (fun j hj => .inl hj)
theorem Aside.new {w w' : World} {d : Nat} {F : List Nat} {D : DS} {v : Value} {l : List UInt8} (h : Disk w d F D) (ho : Ow w' w.heap.size v l) : Aside w' F v l := ⟨ho.bs, Apart.new h.lt (fun j hj => ho.lt j hj)⟩

/-- A disk without a fuse, whose durable pages are ps. -/
structure Cl (D : DS) (ps : List (List UInt8)) (k : Nat) : Prop where
  pages : D.pages = ps
  failed : D.failed = false
  fuse : D.fuse = -1
  pend : D.pend.length ≤ k
theorem cl_burn {D : DS} {ps : List (List UInt8)} {k : Nat} (h : Cl D ps k) : dBurn D = (D, 0) := by unfold dBurn; rw [if_neg (by rw [h.fuse]; decide), if_neg (by rw [h.fuse]; decide)]
theorem cl_write {D : DS} {ps : List (List UInt8)} {k : Nat} (h : Cl D ps k) (p : Int) (data : List UInt8) : Cl (dWrite D p data).1 ps (k + 1) := by
  have hb := cl_burn h
  have hp := h.pend
  unfold dWrite
  rw [if_neg (by simp [h.failed])]
  split
  · exact ⟨h.pages, h.failed, h.fuse, Nat.le_succ_of_le hp⟩
  split
  · exact ⟨h.pages, h.failed, h.fuse, Nat.le_succ_of_le hp⟩
  rw [hb, if_pos rfl]
  exact ⟨h.pages, h.failed, h.fuse, by show (D.pend ++ [_]).length ≤ _; rw [List.length_append]; simp; omega⟩
theorem cl_sync {D : DS} {ps : List (List UInt8)} {k : Nat} (h : Cl D ps k) : (dSync D).2 = 0 ∧ Cl (dSync D).1 (dSync D).1.pages 0 := by
  have hb := cl_burn h
  have e : dSync D = (dSettle D (fun _ => 128), 0) := by unfold dSync; rw [if_neg (by simp [h.failed]), hb, if_pos rfl]
  rw [e]
  exact ⟨rfl, rfl, h.failed, h.fuse, Nat.le_refl _⟩
theorem cl_fail {D : DS} (hf : (dFailAfter D (-1)).failed = false) : Cl (dFailAfter D (-1)) D.pages D.pend.length := ⟨rfl, hf, rfl, Nat.le_refl _⟩
theorem cl_crash (D : DS) (s : List Int) : Cl (dCrash D s) (dCrash D s).pages 0 := ⟨rfl, rfl, rfl, Nat.le_refl _⟩
theorem mixed_zero (page data : List UInt8) : mixed page data 0 = page := by unfold mixed; rfl
theorem settleFrom_zero (f : Nat → Int) : ∀ (ws : List (Nat × List UInt8)) (i : Nat) (ps : List (List UInt8)), (∀ k, f k = 0) → settleFrom f i ws ps = ps
  | [], _, _, _ => rfl
  | w :: ws, i, ps, h => by
    show settleFrom f (i + 1) ws (ps.set w.1 (mixed (ps.getD w.1 []) w.2 (f i))) = ps
    rw [h i, mixed_zero]
    have e : ps.set w.1 (ps.getD w.1 []) = ps := by
      by_cases hl : w.1 < ps.length
      · rw [List.getD_eq_getElem?_getD, List.getElem?_eq_getElem hl]
        exact List.set_getElem_self hl
      · exact List.set_eq_of_length_le (by omega)
    rw [e]
    exact settleFrom_zero f ws (i + 1) ps h
theorem crash_none (D : DS) : (dCrash D []).pages = D.pages := settleFrom_zero _ D.pend 0 D.pages (fun k => by simp)
/-- Contents of a disk without pending writes hang on its pages alone. -/
theorem contents_pages {D E : DS} (h : D.pages = E.pages) (h1 : D.pend = []) (h2 : E.pend = []) : dContents D = dContents E := by
  have e : content D = content E := by funext i; unfold content hist; rw [h, h1, h2]
  unfold dContents catTo
  rw [h, e]
theorem dSync_len {D : DS} (h : D.Ok) : (dSync D).1.pages.length = D.pages.length := by
  have k := (dStep_len h ⟨2, 0, 0, 0, 0, .bool false, []⟩).1
  have e : dStep D ⟨2, 0, 0, 0, 0, .bool false, []⟩ = (dSync D).1 := by simp [dStep]
  rwa [e] at k
theorem dCrash_len {D : DS} (h : D.Ok) (s : List Int) : (dCrash D s).pages.length = D.pages.length := (settleFrom_ok (fun i => s.getD i 0) 0 D.pend D.pages h.pages h.pend).1
theorem Lw.ok {W : World} {d : Nat} {F : List Nat} {D : DS} {w : World} (h : Lw W d F D w) : D.Ok := h.disk.ok
theorem fewB_len {l : List OpV} {k : Nat} (h : fewB l (k : Int) = true) : l.length ≤ k := by unfold fewB at h; simp at h; omega
theorem dRun_len {D : DS} {W : World} : ∀ (l : List OpV), D.Ok → (∀ x ∈ l, x.Ok W) → (dRun D l).Ok ∧ (dRun D l).pages.length = D.pages.length ∧ (dRun D l).pend.length ≤ D.pend.length + l.length := by
  intro l
  induction l generalizing D with
  | nil => exact fun h _ => ⟨h, rfl, Nat.le_refl _⟩
  | cons x l ih =>
    intro h hx
    have h1 := dStep_ok h (hx x (by simp))
    have h2 := dStep_len h x
    have h3 := ih h1 (fun y hy => hx y (by simp [hy]))
    refine ⟨h3.1, h3.2.1.trans h2.1, ?_⟩
    have := h3.2.2
    show (dRun (dStep D x) l).pend.length ≤ _
    simp; omega
theorem OpsIn.all {w : World} {v : Value} {l : List OpV} (h : OpsIn w v l) : ∀ x ∈ l, x.Ok w := by obtain ⟨A, c, e, _, _, h3, _⟩ := h; exact h3

/-- Between two rounds of a loop that writes. -/
def WlR (W : World) (d : Nat) (ps : List (List UInt8)) (vw : Value) (lw : List UInt8) (n : Nat) (v7 : Value) (w : World) : Prop :=
  ∃ (i : Nat) (F : List Nat) (D : DS), v7 = .int .i64 i ∧ i ≤ n ∧ Lw W d F D w ∧ Cl D ps i ∧ Aside w F vw lw

set_option maxRecDepth 100000 in
set_option maxHeartbeats 8000000 in
theorem walkDiskDurable (W : World) (v0 : Value) (l0 : List OpV) (h0 : OpsIn W v0 l0) (v1 : Value) (l1 : List OpV) (h1 : OpsIn W v1 l1) :
    Calls Try.prog 9 #[v0, v1] W fun e w' => e = .returned (.bool true) ∧ Below W.heap.size W w' := by
  obtain ⟨A0, n0, c0, rfl, hn0, _, _⟩ := h0.form
  obtain ⟨A1, n1, c1, rfl, hn1, hnc1, hcm1⟩ := h1.form
  have H0 := hide h0
  have H1 := hide h1
  have HF0 := hide (fun (X : World) (k : Below W.heap.size W X) => few_c _ l0 20 X (h0.step k))
  have HF1 := hide (fun (X : World) (k : Below W.heap.size W X) => few_c _ l1 20 X (h1.step k))
  by_cases hf0 : fewB l0 20 = true
  case neg =>
    have hf : fewB l0 20 = false := by simpa using hf0
    rw [hf] at HF0
    clear h0 h1 hf hf0
    go_enter Try.func9, Try.ntmps9
    go_wp2_with fail
    refine (awake_c _).mono ?_
    rintro e w1 ⟨rfl, hb1⟩
    go_wp2_with fail
    refine (HF0.out w1 hb1).mono ?_
    rintro e w2 ⟨rfl, rfl⟩
    go_wp2_with fail
    go_ret
    exact ⟨rfl, hb1⟩
  by_cases hf1 : fewB l1 20 = true
  case neg =>
    have hf : fewB l1 20 = false := by simpa using hf1
    rw [hf] at HF1
    rw [hf0] at HF0
    clear h0 h1 hf hf0 hf1
    go_enter Try.func9, Try.ntmps9
    go_wp2_with fail
    refine (awake_c _).mono ?_
    rintro e w1 ⟨rfl, hb1⟩
    go_wp2_with fail
    refine (HF0.out w1 hb1).mono ?_
    rintro e w2 ⟨rfl, rfl⟩
    go_wp2_with fail
    refine (HF1.out w1 hb1).mono ?_
    rintro e w2 ⟨rfl, rfl⟩
    go_wp2_with fail
    go_ret
    exact ⟨rfl, hb1⟩
  have hl0 := fewB_len (k := 20) hf0
  have hl1 := fewB_len (k := 20) hf1
  rw [hf0] at HF0
  rw [hf1] at HF1
  obtain ⟨_, hrp, hrq⟩ := dRun_len (D := dNew 6) l0 (dNew_ok 6) h0.all
  have hrp6 : (dRun (dNew 6) l0).pages.length = 6 := hrp.trans (by simp [dNew])
  have hrq20 : (dRun (dNew 6) l0).pend.length ≤ 20 := Nat.le_trans hrq (by simpa [dNew] using hl0)
  have HRU := hide (fun (X : World) (k : Below W.heap.size W X) => run_c _ l0 X (h0.step k) (by omega))
  have HNL : Hid (n1 ≤ 20) := hide (by rw [hn1.out]; exact hl1)
  generalize dRun (dNew 6) l0 = D at *
  have HRP := hide hrp6
  have HRQ := hide hrq20
  clear h0 h1 hf0 hf1 hl0 hl1 hrp hrq hrp6 hrq20
  go_enter Try.func9, Try.ntmps9
  go_wp2_with fail
  refine (awake_c _).mono ?_
  rintro e w1 ⟨rfl, hb1⟩
  have HB1 := hide hb1
  clear hb1
  go_wp2_with fail
  refine (HF0.out w1 HB1.out).mono ?_
  rintro e w2 ⟨rfl, rfl⟩
  go_wp2_with fail
  refine (HF1.out w1 HB1.out).mono ?_
  rintro e w2 ⟨rfl, rfl⟩
  go_wp2_with fail
  refine (HRU.out w1 HB1.out).mono ?_
  rintro e w2 ⟨d, F, rfl, hd, hlo, hb2⟩
  have HL : Hid (Lw W d F D w2) := hide ⟨hd, fun j hj => Nat.le_trans HB1.out.size (hlo j hj), HB1.out.trans (hb2.mono HB1.out.size)⟩
  clear hd hlo hb2 HF0 HF1 HRU
  go_wp2_with fail
  refine (failAfter_c d F D (-1) (by decide) w2 HL.out.disk).mono ?_
  rintro e w3 hdo
  obtain ⟨rfl, F3, hl3, _, _⟩ := HL.out.does hdo
  have HL3 := hide hl3
  clear hdo hl3 HL

  have HFA := hide (failed_c d F3 _ w3 HL3.out.disk)
  have HP3 : Hid ((dFailAfter D (-1)).pages.length = 6) := hide HRP.out
  have hcl := @cl_fail D
  generalize hD1 : dFailAfter D (-1) = D1 at *
  cases hfl : D1.failed with
  | true =>
    rw [hfl] at HFA
    clear hcl hD1 hfl
    go_wp2_with fail
    refine HFA.out.mono ?_
    rintro e w4 ⟨rfl, rfl⟩
    go_wp2_with fail
    refine (crash_c d F3 D1 _ [] w3 HL3.out.disk (Is.nil _) (fun j hj => by cases hj)).mono ?_
    rintro e w4 hdo
    obtain ⟨rfl, F4, hl4, _, _⟩ := HL3.out.does hdo
    have HL4 := hide hl4
    have HC4 : Hid (Cl (dCrash D1 []) (dCrash D1 []).pages 20) := hide (by have h := cl_crash D1 []; exact ⟨h.pages, h.failed, h.fuse, Nat.le_trans h.pend (by decide)⟩)
    have HP4 : Hid ((dCrash D1 []).pages.length = 6) := hide ((dCrash_len HL3.out.ok []).trans HP3.out)
    clear hdo hl4
    generalize dCrash D1 [] = D2 at *
    have HS := hide (sync_c d F4 D2 w4 HL4.out.disk)
    have hcs := cl_sync HC4.out
    rw [hcs.1] at HS
    have HC5 := hide hcs.2
    have HP5 : Hid ((dSync D2).1.pages.length = 6) := hide ((dSync_len HL4.out.ok).trans HP4.out)
    clear hcs
    generalize (dSync D2).1 = D3 at *
    go_wp2_with fail
    refine HS.out.mono ?_
    rintro e w5 hdo
    obtain ⟨rfl, F5, hl5, _, _⟩ := HL4.out.does hdo
    have HL5 := hide hl5
    clear hdo hl5 HS
    go_wp2_with fail
    refine (contents_l d F5 D3 w5 HL5.out.disk HC5.out.failed (by rw [HP5.out]; decide)).mono ?_
    rintro e w6 ⟨vw, rfl, how, hb6⟩
    have HA6 : Hid (Aside w6 F5 vw (dContents D3)) := hide (Aside.new HL5.out.disk how)
    have HL6 := hide (HL5.out.step hb6)
    clear how hb6
    go_wp2_with fail
    go_loopw [7] (fun v7 wr => WlR W d D3.pages vw (dContents D3) n1 v7 wr) (fun v7 _ => n1 - (intOf v7).toNat)
    case atStart => exact ⟨0, F5, D3, rfl, Nat.zero_le _, HL6.out, HC5.out, HA6.out⟩
    case round =>
      obtain ⟨i, F1, D1', rfl, hi, hlw, hcl, has⟩ := hrel
      have HLW := hide hlw
      have HCL := hide hcl
      have HAS := hide has
      have HI := hide hi
      by_cases hlt : i < n1
      · have hil : i < l1.length := by rw [← hn1.out]; exact hlt
        obtain ⟨gl, ol, rfl, hgl, hok, _⟩ := H1.out.at_ i hil
        have hxs : l1[i]? = some l1[i] := List.getElem?_eq_getElem hil
        generalize l1[i] = x at *
        obtain ⟨As, ms, cs, hsv, _, _, _⟩ := hok.surv.formN
        have HDA := hide (fun (X : World) (k : Below W.heap.size W X) => data_c x X (hok.step k))
        unfold OpV.val at HDA
        rw [hsv] at HDA
        have HOC : Hid (∀ X : World, Below W.heap.size W X → X.cell? ⟨gl, ol + i * 6, none⟩ = some (.int .i64 x.kind) ∧ X.cell? ⟨gl, ol + i * 6 + 1, none⟩ = some (.int .i64 x.page) ∧ X.cell? ⟨gl, ol + i * 6 + 2, none⟩ = some (.int .i64 x.n) ∧ X.cell? ⟨gl, ol + i * 6 + 3, none⟩ = some (.int .u8 x.fill) ∧ X.cell? ⟨gl, ol + i * 6 + 4, none⟩ = some (.int .u8 x.short) ∧ X.cell? ⟨gl, ol + i * 6 + 5, none⟩ = some (.slice As ms cs)) := hide (fun X k => op_cells H1.out hil x hxs hsv (fun a ha => k.cell (p := a) (by rw [ha]; exact hgl)))
        obtain ⟨o0, o1, o2, o3, o4, o5⟩ := HOC.out wr hlw.b
        have hki : (i : Int) < (n1 : Int) := by omega
        have HLT := hide hlt
        clear hil hok hxs hsv hgl hlt hlw hcl has hi
        by_cases hk : x.kind = 0
        · have hk0 : (x.kind == 0) = true := by simpa using hk
          clear hk
          go_wp2_with fail
          refine wp_region_held_drew (S := fun w' => w'.cell? ⟨gl, ol + i * 6, none⟩ = some (.int .i64 x.kind) ∧ w'.cell? ⟨gl, ol + i * 6 + 1, none⟩ = some (.int .i64 x.page) ∧ w'.cell? ⟨gl, ol + i * 6 + 2, none⟩ = some (.int .i64 x.n) ∧ w'.cell? ⟨gl, ol + i * 6 + 3, none⟩ = some (.int .u8 x.fill) ∧ w'.cell? ⟨gl, ol + i * 6 + 4, none⟩ = some (.int .u8 x.short) ∧ w'.cell? ⟨gl, ol + i * 6 + 5, none⟩ = some (.slice As ms cs)) (by kernel_rfl) (HOC.out _ HLW.out.b.drew) (fun hS0 => ?_)
          refine wpAnyH_take (i := 0) (v := ?vaw0) rfl (by kernel_rfl) (by kernel_rfl) (by kernel_rfl) (fun _ _ _ h => h) (Or.inl ⟨by rfl, ?hyaw0⟩) (by assumption) ?restaw0
          case hyaw0 => (intro w hSw; (try dsimp only at hSw); go_simp; first | done | (with_reducible rfl))
          try simp only [Act.put, List.getElem_toArray, List.getElem_cons_zero, List.getElem_cons_succ, List.setIfInBounds_toArray, List.set_cons_zero, List.set_cons_succ]
          refine wpAnyH_take (i := 1) (v := ?vaw1) rfl (by kernel_rfl) (by kernel_rfl) (by kernel_rfl) (fun _ _ _ h => h) (Or.inl ⟨by rfl, ?hyaw1⟩) (by assumption) ?restaw1
          case hyaw1 => (intro w hSw; (try dsimp only at hSw); go_simp; first | done | (with_reducible rfl))
          try simp only [Act.put, List.getElem_toArray, List.getElem_cons_zero, List.getElem_cons_succ, List.setIfInBounds_toArray, List.set_cons_zero, List.set_cons_succ]
          refine wpAnyH_take (i := 2) (v := ?vaw2) rfl (by kernel_rfl) (by kernel_rfl) (by kernel_rfl) (fun _ _ _ h => h) (Or.inl ⟨by rfl, ?hyaw2⟩) (by assumption) ?restaw2
          case hyaw2 => (intro w hSw; (try dsimp only at hSw); go_simp; first | done | (with_reducible rfl))
          try simp only [Act.put, List.getElem_toArray, List.getElem_cons_zero, List.getElem_cons_succ, List.setIfInBounds_toArray, List.set_cons_zero, List.set_cons_succ]
          refine wpAnyH_take (i := 3) (v := ?vaw3) rfl (by kernel_rfl) (by kernel_rfl) (by kernel_rfl) (fun _ _ _ h => h) (Or.inl ⟨by rfl, ?hyaw3⟩) (by assumption) ?restaw3
          case hyaw3 => (intro w hSw; (try dsimp only at hSw); go_simp; first | done | (with_reducible rfl))
          try simp only [Act.put, List.getElem_toArray, List.getElem_cons_zero, List.getElem_cons_succ, List.setIfInBounds_toArray, List.set_cons_zero, List.set_cons_succ]
          refine wpAnyH_take (i := 4) (v := ?vaw4) rfl (by kernel_rfl) (by kernel_rfl) (by kernel_rfl) (fun _ _ _ h => h) (Or.inl ⟨by rfl, ?hyaw4⟩) (by assumption) ?restaw4
          case hyaw4 => (intro w hSw; (try dsimp only at hSw); go_simp; first | done | (with_reducible rfl))
          try simp only [Act.put, List.getElem_toArray, List.getElem_cons_zero, List.getElem_cons_succ, List.setIfInBounds_toArray, List.set_cons_zero, List.set_cons_succ]
          refine wpAnyH_take (i := 5) (v := ?vaw5) rfl (by kernel_rfl) (by kernel_rfl) (by kernel_rfl) (fun _ _ _ h => h) (Or.inl ⟨by rfl, ?hyaw5⟩) (by assumption) ?restaw5
          case hyaw5 => (intro w hSw; (try dsimp only at hSw); go_simp; first | done | (with_reducible rfl))
          try simp only [Act.put, List.getElem_toArray, List.getElem_cons_zero, List.getElem_cons_succ, List.setIfInBounds_toArray, List.set_cons_zero, List.set_cons_succ]
          refine wpAnyH_take (i := 6) (v := ?vaw6) rfl (by kernel_rfl) (by kernel_rfl) (by kernel_rfl) (fun _ _ _ h => h) (Or.inl ⟨by rfl, ?hyaw6⟩) (by assumption) ?restaw6
          case hyaw6 => (intro w hSw; (try dsimp only at hSw); go_simp; first | done | (with_reducible rfl))
          try simp only [Act.put, List.getElem_toArray, List.getElem_cons_zero, List.getElem_cons_succ, List.setIfInBounds_toArray, List.set_cons_zero, List.set_cons_succ]
          refine wpAnyH_take (i := 7) (v := ?vaw7) rfl (by kernel_rfl) (by kernel_rfl) (by kernel_rfl) (fun _ _ _ h => h) (Or.inl ⟨by rfl, ?hyaw7⟩) (by assumption) ?restaw7
          case hyaw7 => (intro w hSw; (try dsimp only at hSw); go_simp; first | done | (with_reducible rfl))
          try simp only [Act.put, List.getElem_toArray, List.getElem_cons_zero, List.getElem_cons_succ, List.setIfInBounds_toArray, List.set_cons_zero, List.set_cons_succ]
          refine wpAnyH_take (i := 8) (v := ?vaw8) rfl (by kernel_rfl) (by kernel_rfl) (by kernel_rfl) (fun _ _ _ h => h) (Or.inl ⟨by rfl, ?hyaw8⟩) (by assumption) ?restaw8
          case hyaw8 => (intro w hSw; (try dsimp only at hSw); go_simp; first | done | (with_reducible rfl))
          try simp only [Act.put, List.getElem_toArray, List.getElem_cons_zero, List.getElem_cons_succ, List.setIfInBounds_toArray, List.set_cons_zero, List.set_cons_succ]
          refine wpAnyH_take (i := 9) (v := ?vaw9) rfl (by kernel_rfl) (by kernel_rfl) (by kernel_rfl) (fun _ _ _ h => h) (Or.inl ⟨by rfl, ?hyaw9⟩) (by assumption) ?restaw9
          case hyaw9 => (intro w hSw; (try dsimp only at hSw); go_simp; first | done | (with_reducible rfl))
          try simp only [Act.put, List.getElem_toArray, List.getElem_cons_zero, List.getElem_cons_succ, List.setIfInBounds_toArray, List.set_cons_zero, List.set_cons_succ]
          refine wpAnyH_ready (rs := [10]) (by kernel_rfl) (by simp) ?_
          refine AllReadyH.cons rfl (fun K hK => ?_) AllReadyH.nil
          go_simp
          refine (HDA.out _ HLW.out.b.drew).mono ?_
          rintro e Wd ⟨vd, rfl, how, hbd⟩
          have HV := hide how
          have HLD := hide ((HLW.out.step (Below.refl _ _).drew).step hbd)
          have HAD := hide ((HAS.out.step (Below.refl _ _).drew).step hbd)
          clear how hbd
          refine hK.out _ _ (HOC.out _ HLD.out.b) (fun hS10 => ?_)
          clear hK K
          try simp only [Act.put, List.getElem_toArray, List.getElem_cons_zero, List.getElem_cons_succ, List.setIfInBounds_toArray, List.set_cons_zero, List.set_cons_succ]
          refine wpAnyH_ready (rs := [11]) (by kernel_rfl) (by simp) ?_
          refine AllReadyH.cons rfl (fun K hK => ?_) AllReadyH.nil
          go_simp
          refine (write_c d F1 D1' x.page vd (dataOf x) Wd HLD.out.disk HV.out.bs (fun _ j hj => by have h1 := HV.out.lt j hj; exact ⟨fun hm => by have h2 := HLW.out.disk.lt j hm; have h3 : wr.heap.size ≤ j := h1.1; omega, h1.2⟩) (by have := HCL.out.pend; have := HNL.out; have := HLT.out; omega)).mono ?_
          rintro e Wx hdo
          obtain ⟨rfl, F2, hl2, ht2, hF2⟩ := HLD.out.does hdo
          have HL2 := hide hl2
          have HA2 := hide (HAD.out.touch ht2 hF2)
          clear hdo hl2 ht2 hF2
          refine hK.out _ _ (HOC.out _ HL2.out.b) (fun hS11 => ?_)
          clear hK K
          try simp only [Act.put, List.getElem_toArray, List.getElem_cons_zero, List.getElem_cons_succ, List.setIfInBounds_toArray, List.set_cons_zero, List.set_cons_succ]
          refine wpAnyH_done (by kernel_rfl) ?_ _
          go_wp2_with fail
          go_roundw
          case rel => exact ⟨i + 1, F2, _, by go_num, by have := HLT.out; omega, HL2.out, cl_write HCL.out _ _, HA2.out⟩
          case measure => have := HLT.out; simp [intOf]; omega
        · have hk0 : (x.kind == 0) = false := by simpa using hk
          clear hk
          go_wp2_with fail
          go_roundw
          case rel => exact ⟨i + 1, F1, D1', by go_num, by have := HLT.out; omega, HLW.out, ⟨HCL.out.pages, HCL.out.failed, HCL.out.fuse, Nat.le_succ_of_le HCL.out.pend⟩, HAS.out⟩
          case measure => have := HLT.out; simp [intOf]; omega
      · obtain rfl : i = n1 := by have := HI.out; omega
        clear hlt hlw hcl has hi
        go_wp2_with fail
        refine (crash_c d F1 D1' _ [] wr HLW.out.disk (Is.nil _) (fun j hj => by cases hj)).mono ?_
        rintro e w8 hdo
        obtain ⟨rfl, F8, hl8, ht8, hF8⟩ := HLW.out.does hdo
        have HL8 := hide hl8
        have HA8 := hide (HAS.out.touch ht8 hF8)
        have hcon : dContents (dCrash D1' []) = dContents D3 := contents_pages ((crash_none D1').trans HCL.out.pages) rfl (List.eq_nil_of_length_eq_zero (Nat.le_zero.1 HC5.out.pend))
        have HCT := hide (fun (X : World) (k : Below w8.heap.size w8 X) => contents_l d F8 _ X (hl8.disk.step k) (cl_crash D1' []).failed (by rw [dCrash_len HLW.out.ok, HCL.out.pages, HP5.out]; decide))
        rw [hcon] at HCT
        have HPD := hide (fun (X : World) (k : Below w8.heap.size w8 X) => pending_c d F8 _ X (hl8.disk.step k))
        rw [show (dCrash D1' []).pend.length = 0 from rfl] at HPD
        clear hdo hl8 ht8 hF8 hcon
        go_wp2_with fail
        refine wp_region_held_drew (S := fun w' => (convert 28 9 vw).run Try.prog w' = .ok (.string ⟨(dContents D3).toArray⟩) w') (by kernel_rfl) (run_string_bs HA8.out.1.drew) (fun hS0 => ?_)
        refine wpAnyH_take (i := 0) (v := ?vae0) rfl (by kernel_rfl) (by kernel_rfl) (by kernel_rfl) (fun _ _ _ h => h) (Or.inl ⟨by rfl, ?hyae0⟩) (by assumption) ?restae0
        case hyae0 => (intro w hSw; (try dsimp only at hSw); go_simp; first | done | (with_reducible rfl))
        try simp only [Act.put, List.getElem_toArray, List.getElem_cons_zero, List.getElem_cons_succ, List.setIfInBounds_toArray, List.set_cons_zero, List.set_cons_succ]
        refine wpAnyH_take (i := 3) (v := ?vae1) rfl (by kernel_rfl) (by kernel_rfl) (by kernel_rfl) (fun _ _ _ h => h) (Or.inl ⟨by rfl, ?hyae1⟩) (by assumption) ?restae1
        case hyae1 => (intro w hSw; (try dsimp only at hSw); go_simp; first | done | (with_reducible rfl))
        try simp only [Act.put, List.getElem_toArray, List.getElem_cons_zero, List.getElem_cons_succ, List.setIfInBounds_toArray, List.set_cons_zero, List.set_cons_succ]
        refine wpAnyH_take (i := 4) (v := ?vae2) rfl (by kernel_rfl) (by kernel_rfl) (by kernel_rfl) (fun _ _ _ h => h) (Or.inl ⟨by rfl, ?hyae2⟩) (by assumption) ?restae2
        case hyae2 => (intro w hSw; (try dsimp only at hSw); go_simp; first | done | (with_reducible rfl))
        try simp only [Act.put, List.getElem_toArray, List.getElem_cons_zero, List.getElem_cons_succ, List.setIfInBounds_toArray, List.set_cons_zero, List.set_cons_succ]
        refine wpAnyH_ready (rs := [1]) (by kernel_rfl) (by simp) ?_
        refine AllReadyH.cons rfl (fun K hK => ?_) AllReadyH.nil
        go_simp
        refine (HCT.out _ (Below.refl _ _).drew).mono ?_
        rintro e w9 ⟨v9, rfl, how, hb9⟩
        have HV9 := hide how.bs
        have hb9' := (Below.refl w8.heap.size w8).drew.trans hb9
        have HB9 := hide hb9'
        have HA9 := hide (HA8.out.step hb9')
        have HL9 := hide (HL8.out.step hb9')
        clear how hb9 hb9'
        refine hK.out _ _ (run_string_bs HA9.out.1) (fun hS3 => ?_)
        clear hK K
        refine heldMono (S' := (fun w' => (convert 28 9 vw).run Try.prog w' = .ok (.string ⟨(dContents D3).toArray⟩) w' ∧ (convert 28 9 v9).run Try.prog w' = .ok (.string ⟨(dContents D3).toArray⟩) w')) (fun _ h => h.1) _ _ _ _ ?_
        have hT3 : (fun w' => (convert 28 9 vw).run Try.prog w' = .ok (.string ⟨(dContents D3).toArray⟩) w' ∧ (convert 28 9 v9).run Try.prog w' = .ok (.string ⟨(dContents D3).toArray⟩) w') _ := ⟨run_string_bs HA9.out.1, run_string_bs HV9.out⟩
        try simp only [Act.put, List.getElem_toArray, List.getElem_cons_zero, List.getElem_cons_succ, List.setIfInBounds_toArray, List.set_cons_zero, List.set_cons_succ]
        refine wpAnyH_take (i := 2) (v := ?vae4) rfl (by kernel_rfl) (by kernel_rfl) (by kernel_rfl) (fun _ _ _ h => h) (Or.inl ⟨by rfl, ?hyae4⟩) (by assumption) ?restae4
        case hyae4 => (intro w hSw; (try dsimp only at hSw); go_simp; first | done | (with_reducible rfl))
        try simp only [Act.put, List.getElem_toArray, List.getElem_cons_zero, List.getElem_cons_succ, List.setIfInBounds_toArray, List.set_cons_zero, List.set_cons_succ]
        refine wpAnyH_take (i := 5) (v := ?vae5) rfl (by kernel_rfl) (by kernel_rfl) (by kernel_rfl) (fun _ _ _ h => h) (Or.inl ⟨by rfl, ?hyae5⟩) (by assumption) ?restae5
        case hyae5 => (intro w hSw; (try dsimp only at hSw); go_simp; first | done | (with_reducible rfl))
        try simp only [Act.put, List.getElem_toArray, List.getElem_cons_zero, List.getElem_cons_succ, List.setIfInBounds_toArray, List.set_cons_zero, List.set_cons_succ]
        refine wpAnyH_take (i := 6) (v := ?vae6) rfl (by kernel_rfl) (by kernel_rfl) (by kernel_rfl) (fun _ _ _ h => h) (Or.inl ⟨by rfl, ?hyae6⟩) (by assumption) ?restae6
        case hyae6 => (intro w hSw; (try dsimp only at hSw); go_simp; first | done | (with_reducible rfl))
        try simp only [Act.put, List.getElem_toArray, List.getElem_cons_zero, List.getElem_cons_succ, List.setIfInBounds_toArray, List.set_cons_zero, List.set_cons_succ]
        refine wpAnyH_take (i := 7) (v := ?vae7) rfl (by kernel_rfl) (by kernel_rfl) (by kernel_rfl) (fun _ _ _ h => h) (Or.inl ⟨by rfl, ?hyae7⟩) (by assumption) ?restae7
        case hyae7 => (intro w hSw; (try dsimp only at hSw); go_simp; first | done | (with_reducible rfl))
        try simp only [Act.put, List.getElem_toArray, List.getElem_cons_zero, List.getElem_cons_succ, List.setIfInBounds_toArray, List.set_cons_zero, List.set_cons_succ]
        refine wpAnyH_ready (rs := [8]) (by kernel_rfl) (by simp) ?_
        refine AllReadyH.cons rfl (fun K hK => ?_) AllReadyH.nil
        go_simp
        refine (HPD.out _ HB9.out).mono ?_
        rintro e wz ⟨rfl, rfl⟩
        refine hK.out _ _ (⟨run_string_bs HA9.out.1, run_string_bs HV9.out⟩) (fun hS8 => ?_)
        clear hK K
        try simp only [Act.put, List.getElem_toArray, List.getElem_cons_zero, List.getElem_cons_succ, List.setIfInBounds_toArray, List.set_cons_zero, List.set_cons_succ]
        refine wpAnyH_take (i := 9) (v := ?vae9) rfl (by kernel_rfl) (by kernel_rfl) (by kernel_rfl) (fun _ _ _ h => h) (Or.inl ⟨by rfl, ?hyae9⟩) (by assumption) ?restae9
        case hyae9 => (intro w hSw; (try dsimp only at hSw); go_simp; first | done | (with_reducible rfl))
        try simp only [Act.put, List.getElem_toArray, List.getElem_cons_zero, List.getElem_cons_succ, List.setIfInBounds_toArray, List.set_cons_zero, List.set_cons_succ]
        refine wpAnyH_take (i := 10) (v := ?vae10) rfl (by kernel_rfl) (by kernel_rfl) (by kernel_rfl) (fun _ _ _ h => h) (Or.inl ⟨by rfl, ?hyae10⟩) (by assumption) ?restae10
        case hyae10 => (intro w hSw; (try dsimp only at hSw); go_simp; first | done | (with_reducible rfl))
        try simp only [Act.put, List.getElem_toArray, List.getElem_cons_zero, List.getElem_cons_succ, List.setIfInBounds_toArray, List.set_cons_zero, List.set_cons_succ]
        refine wpAnyH_take (i := 11) (v := ?vae11) rfl (by kernel_rfl) (by kernel_rfl) (by kernel_rfl) (fun _ _ _ h => h) (Or.inl ⟨by rfl, ?hyae11⟩) (by assumption) ?restae11
        case hyae11 => (intro w hSw; (try dsimp only at hSw); go_simp; first | done | (with_reducible rfl))
        try simp only [Act.put, List.getElem_toArray, List.getElem_cons_zero, List.getElem_cons_succ, List.setIfInBounds_toArray, List.set_cons_zero, List.set_cons_succ]
        refine wpAnyH_done (by kernel_rfl) ?_ _
        go_wp2_with fail
        go_ret
        exact ⟨by first | rfl | simp, HL9.out.b⟩
  | false =>
    have HC4 : Hid (Cl D1 D1.pages 20) := hide (by have h := hcl hfl; exact ⟨rfl, h.failed, h.fuse, Nat.le_trans h.pend HRQ.out⟩)
    rw [hfl] at HFA
    clear hcl hfl
    go_wp2_with fail
    refine HFA.out.mono ?_
    rintro e w4 ⟨rfl, rfl⟩
    have HL4 := HL3
    have HP4 := HP3
    obtain ⟨D2, hD2⟩ : ∃ D2, D2 = D1 := ⟨_, rfl⟩
    obtain ⟨F4, hF4⟩ : ∃ F4, F4 = F3 := ⟨_, rfl⟩
    obtain ⟨w4, hw4⟩ : ∃ w4, w4 = w3 := ⟨_, rfl⟩
    rw [← hw4]
    rw [← hD2, ← hF4, ← hw4] at HL4
    rw [← hD2] at HC4 HP4
    clear hD2 hF4 hw4
    have HS := hide (sync_c d F4 D2 w4 HL4.out.disk)
    have hcs := cl_sync HC4.out
    rw [hcs.1] at HS
    have HC5 := hide hcs.2
    have HP5 : Hid ((dSync D2).1.pages.length = 6) := hide ((dSync_len HL4.out.ok).trans HP4.out)
    clear hcs
    generalize (dSync D2).1 = D3 at *
    go_wp2_with fail
    refine HS.out.mono ?_
    rintro e w5 hdo
    obtain ⟨rfl, F5, hl5, _, _⟩ := HL4.out.does hdo
    have HL5 := hide hl5
    clear hdo hl5 HS
    go_wp2_with fail
    refine (contents_l d F5 D3 w5 HL5.out.disk HC5.out.failed (by rw [HP5.out]; decide)).mono ?_
    rintro e w6 ⟨vw, rfl, how, hb6⟩
    have HA6 : Hid (Aside w6 F5 vw (dContents D3)) := hide (Aside.new HL5.out.disk how)
    have HL6 := hide (HL5.out.step hb6)
    clear how hb6
    go_wp2_with fail
    go_loopw [7] (fun v7 wr => WlR W d D3.pages vw (dContents D3) n1 v7 wr) (fun v7 _ => n1 - (intOf v7).toNat)
    case atStart => exact ⟨0, F5, D3, rfl, Nat.zero_le _, HL6.out, HC5.out, HA6.out⟩
    case round =>
      obtain ⟨i, F1, D1', rfl, hi, hlw, hcl, has⟩ := hrel
      have HLW := hide hlw
      have HCL := hide hcl
      have HAS := hide has
      have HI := hide hi
      by_cases hlt : i < n1
      · have hil : i < l1.length := by rw [← hn1.out]; exact hlt
        obtain ⟨gl, ol, rfl, hgl, hok, _⟩ := H1.out.at_ i hil
        have hxs : l1[i]? = some l1[i] := List.getElem?_eq_getElem hil
        generalize l1[i] = x at *
        obtain ⟨As, ms, cs, hsv, _, _, _⟩ := hok.surv.formN
        have HDA := hide (fun (X : World) (k : Below W.heap.size W X) => data_c x X (hok.step k))
        unfold OpV.val at HDA
        rw [hsv] at HDA
        have HOC : Hid (∀ X : World, Below W.heap.size W X → X.cell? ⟨gl, ol + i * 6, none⟩ = some (.int .i64 x.kind) ∧ X.cell? ⟨gl, ol + i * 6 + 1, none⟩ = some (.int .i64 x.page) ∧ X.cell? ⟨gl, ol + i * 6 + 2, none⟩ = some (.int .i64 x.n) ∧ X.cell? ⟨gl, ol + i * 6 + 3, none⟩ = some (.int .u8 x.fill) ∧ X.cell? ⟨gl, ol + i * 6 + 4, none⟩ = some (.int .u8 x.short) ∧ X.cell? ⟨gl, ol + i * 6 + 5, none⟩ = some (.slice As ms cs)) := hide (fun X k => op_cells H1.out hil x hxs hsv (fun a ha => k.cell (p := a) (by rw [ha]; exact hgl)))
        obtain ⟨o0, o1, o2, o3, o4, o5⟩ := HOC.out wr hlw.b
        have hki : (i : Int) < (n1 : Int) := by omega
        have HLT := hide hlt
        clear hil hok hxs hsv hgl hlt hlw hcl has hi
        by_cases hk : x.kind = 0
        · have hk0 : (x.kind == 0) = true := by simpa using hk
          clear hk
          go_wp2_with fail
          refine wp_region_held_drew (S := fun w' => w'.cell? ⟨gl, ol + i * 6, none⟩ = some (.int .i64 x.kind) ∧ w'.cell? ⟨gl, ol + i * 6 + 1, none⟩ = some (.int .i64 x.page) ∧ w'.cell? ⟨gl, ol + i * 6 + 2, none⟩ = some (.int .i64 x.n) ∧ w'.cell? ⟨gl, ol + i * 6 + 3, none⟩ = some (.int .u8 x.fill) ∧ w'.cell? ⟨gl, ol + i * 6 + 4, none⟩ = some (.int .u8 x.short) ∧ w'.cell? ⟨gl, ol + i * 6 + 5, none⟩ = some (.slice As ms cs)) (by kernel_rfl) (HOC.out _ HLW.out.b.drew) (fun hS0 => ?_)
          refine wpAnyH_take (i := 0) (v := ?vbw0) rfl (by kernel_rfl) (by kernel_rfl) (by kernel_rfl) (fun _ _ _ h => h) (Or.inl ⟨by rfl, ?hybw0⟩) (by assumption) ?restbw0
          case hybw0 => (intro w hSw; (try dsimp only at hSw); go_simp; first | done | (with_reducible rfl))
          try simp only [Act.put, List.getElem_toArray, List.getElem_cons_zero, List.getElem_cons_succ, List.setIfInBounds_toArray, List.set_cons_zero, List.set_cons_succ]
          refine wpAnyH_take (i := 1) (v := ?vbw1) rfl (by kernel_rfl) (by kernel_rfl) (by kernel_rfl) (fun _ _ _ h => h) (Or.inl ⟨by rfl, ?hybw1⟩) (by assumption) ?restbw1
          case hybw1 => (intro w hSw; (try dsimp only at hSw); go_simp; first | done | (with_reducible rfl))
          try simp only [Act.put, List.getElem_toArray, List.getElem_cons_zero, List.getElem_cons_succ, List.setIfInBounds_toArray, List.set_cons_zero, List.set_cons_succ]
          refine wpAnyH_take (i := 2) (v := ?vbw2) rfl (by kernel_rfl) (by kernel_rfl) (by kernel_rfl) (fun _ _ _ h => h) (Or.inl ⟨by rfl, ?hybw2⟩) (by assumption) ?restbw2
          case hybw2 => (intro w hSw; (try dsimp only at hSw); go_simp; first | done | (with_reducible rfl))
          try simp only [Act.put, List.getElem_toArray, List.getElem_cons_zero, List.getElem_cons_succ, List.setIfInBounds_toArray, List.set_cons_zero, List.set_cons_succ]
          refine wpAnyH_take (i := 3) (v := ?vbw3) rfl (by kernel_rfl) (by kernel_rfl) (by kernel_rfl) (fun _ _ _ h => h) (Or.inl ⟨by rfl, ?hybw3⟩) (by assumption) ?restbw3
          case hybw3 => (intro w hSw; (try dsimp only at hSw); go_simp; first | done | (with_reducible rfl))
          try simp only [Act.put, List.getElem_toArray, List.getElem_cons_zero, List.getElem_cons_succ, List.setIfInBounds_toArray, List.set_cons_zero, List.set_cons_succ]
          refine wpAnyH_take (i := 4) (v := ?vbw4) rfl (by kernel_rfl) (by kernel_rfl) (by kernel_rfl) (fun _ _ _ h => h) (Or.inl ⟨by rfl, ?hybw4⟩) (by assumption) ?restbw4
          case hybw4 => (intro w hSw; (try dsimp only at hSw); go_simp; first | done | (with_reducible rfl))
          try simp only [Act.put, List.getElem_toArray, List.getElem_cons_zero, List.getElem_cons_succ, List.setIfInBounds_toArray, List.set_cons_zero, List.set_cons_succ]
          refine wpAnyH_take (i := 5) (v := ?vbw5) rfl (by kernel_rfl) (by kernel_rfl) (by kernel_rfl) (fun _ _ _ h => h) (Or.inl ⟨by rfl, ?hybw5⟩) (by assumption) ?restbw5
          case hybw5 => (intro w hSw; (try dsimp only at hSw); go_simp; first | done | (with_reducible rfl))
          try simp only [Act.put, List.getElem_toArray, List.getElem_cons_zero, List.getElem_cons_succ, List.setIfInBounds_toArray, List.set_cons_zero, List.set_cons_succ]
          refine wpAnyH_take (i := 6) (v := ?vbw6) rfl (by kernel_rfl) (by kernel_rfl) (by kernel_rfl) (fun _ _ _ h => h) (Or.inl ⟨by rfl, ?hybw6⟩) (by assumption) ?restbw6
          case hybw6 => (intro w hSw; (try dsimp only at hSw); go_simp; first | done | (with_reducible rfl))
          try simp only [Act.put, List.getElem_toArray, List.getElem_cons_zero, List.getElem_cons_succ, List.setIfInBounds_toArray, List.set_cons_zero, List.set_cons_succ]
          refine wpAnyH_take (i := 7) (v := ?vbw7) rfl (by kernel_rfl) (by kernel_rfl) (by kernel_rfl) (fun _ _ _ h => h) (Or.inl ⟨by rfl, ?hybw7⟩) (by assumption) ?restbw7
          case hybw7 => (intro w hSw; (try dsimp only at hSw); go_simp; first | done | (with_reducible rfl))
          try simp only [Act.put, List.getElem_toArray, List.getElem_cons_zero, List.getElem_cons_succ, List.setIfInBounds_toArray, List.set_cons_zero, List.set_cons_succ]
          refine wpAnyH_take (i := 8) (v := ?vbw8) rfl (by kernel_rfl) (by kernel_rfl) (by kernel_rfl) (fun _ _ _ h => h) (Or.inl ⟨by rfl, ?hybw8⟩) (by assumption) ?restbw8
          case hybw8 => (intro w hSw; (try dsimp only at hSw); go_simp; first | done | (with_reducible rfl))
          try simp only [Act.put, List.getElem_toArray, List.getElem_cons_zero, List.getElem_cons_succ, List.setIfInBounds_toArray, List.set_cons_zero, List.set_cons_succ]
          refine wpAnyH_take (i := 9) (v := ?vbw9) rfl (by kernel_rfl) (by kernel_rfl) (by kernel_rfl) (fun _ _ _ h => h) (Or.inl ⟨by rfl, ?hybw9⟩) (by assumption) ?restbw9
          case hybw9 => (intro w hSw; (try dsimp only at hSw); go_simp; first | done | (with_reducible rfl))
          try simp only [Act.put, List.getElem_toArray, List.getElem_cons_zero, List.getElem_cons_succ, List.setIfInBounds_toArray, List.set_cons_zero, List.set_cons_succ]
          refine wpAnyH_ready (rs := [10]) (by kernel_rfl) (by simp) ?_
          refine AllReadyH.cons rfl (fun K hK => ?_) AllReadyH.nil
          go_simp
          refine (HDA.out _ HLW.out.b.drew).mono ?_
          rintro e Wd ⟨vd, rfl, how, hbd⟩
          have HV := hide how
          have HLD := hide ((HLW.out.step (Below.refl _ _).drew).step hbd)
          have HAD := hide ((HAS.out.step (Below.refl _ _).drew).step hbd)
          clear how hbd
          refine hK.out _ _ (HOC.out _ HLD.out.b) (fun hS10 => ?_)
          clear hK K
          try simp only [Act.put, List.getElem_toArray, List.getElem_cons_zero, List.getElem_cons_succ, List.setIfInBounds_toArray, List.set_cons_zero, List.set_cons_succ]
          refine wpAnyH_ready (rs := [11]) (by kernel_rfl) (by simp) ?_
          refine AllReadyH.cons rfl (fun K hK => ?_) AllReadyH.nil
          go_simp
          refine (write_c d F1 D1' x.page vd (dataOf x) Wd HLD.out.disk HV.out.bs (fun _ j hj => by have h1 := HV.out.lt j hj; exact ⟨fun hm => by have h2 := HLW.out.disk.lt j hm; have h3 : wr.heap.size ≤ j := h1.1; omega, h1.2⟩) (by have := HCL.out.pend; have := HNL.out; have := HLT.out; omega)).mono ?_
          rintro e Wx hdo
          obtain ⟨rfl, F2, hl2, ht2, hF2⟩ := HLD.out.does hdo
          have HL2 := hide hl2
          have HA2 := hide (HAD.out.touch ht2 hF2)
          clear hdo hl2 ht2 hF2
          refine hK.out _ _ (HOC.out _ HL2.out.b) (fun hS11 => ?_)
          clear hK K
          try simp only [Act.put, List.getElem_toArray, List.getElem_cons_zero, List.getElem_cons_succ, List.setIfInBounds_toArray, List.set_cons_zero, List.set_cons_succ]
          refine wpAnyH_done (by kernel_rfl) ?_ _
          go_wp2_with fail
          go_roundw
          case rel => exact ⟨i + 1, F2, _, by go_num, by have := HLT.out; omega, HL2.out, cl_write HCL.out _ _, HA2.out⟩
          case measure => have := HLT.out; simp [intOf]; omega
        · have hk0 : (x.kind == 0) = false := by simpa using hk
          clear hk
          go_wp2_with fail
          go_roundw
          case rel => exact ⟨i + 1, F1, D1', by go_num, by have := HLT.out; omega, HLW.out, ⟨HCL.out.pages, HCL.out.failed, HCL.out.fuse, Nat.le_succ_of_le HCL.out.pend⟩, HAS.out⟩
          case measure => have := HLT.out; simp [intOf]; omega
      · obtain rfl : i = n1 := by have := HI.out; omega
        clear hlt hlw hcl has hi
        go_wp2_with fail
        refine (crash_c d F1 D1' _ [] wr HLW.out.disk (Is.nil _) (fun j hj => by cases hj)).mono ?_
        rintro e w8 hdo
        obtain ⟨rfl, F8, hl8, ht8, hF8⟩ := HLW.out.does hdo
        have HL8 := hide hl8
        have HA8 := hide (HAS.out.touch ht8 hF8)
        have hcon : dContents (dCrash D1' []) = dContents D3 := contents_pages ((crash_none D1').trans HCL.out.pages) rfl (List.eq_nil_of_length_eq_zero (Nat.le_zero.1 HC5.out.pend))
        have HCT := hide (fun (X : World) (k : Below w8.heap.size w8 X) => contents_l d F8 _ X (hl8.disk.step k) (cl_crash D1' []).failed (by rw [dCrash_len HLW.out.ok, HCL.out.pages, HP5.out]; decide))
        rw [hcon] at HCT
        have HPD := hide (fun (X : World) (k : Below w8.heap.size w8 X) => pending_c d F8 _ X (hl8.disk.step k))
        rw [show (dCrash D1' []).pend.length = 0 from rfl] at HPD
        clear hdo hl8 ht8 hF8 hcon
        go_wp2_with fail
        refine wp_region_held_drew (S := fun w' => (convert 28 9 vw).run Try.prog w' = .ok (.string ⟨(dContents D3).toArray⟩) w') (by kernel_rfl) (run_string_bs HA8.out.1.drew) (fun hS0 => ?_)
        refine wpAnyH_take (i := 0) (v := ?vbe0) rfl (by kernel_rfl) (by kernel_rfl) (by kernel_rfl) (fun _ _ _ h => h) (Or.inl ⟨by rfl, ?hybe0⟩) (by assumption) ?restbe0
        case hybe0 => (intro w hSw; (try dsimp only at hSw); go_simp; first | done | (with_reducible rfl))
        try simp only [Act.put, List.getElem_toArray, List.getElem_cons_zero, List.getElem_cons_succ, List.setIfInBounds_toArray, List.set_cons_zero, List.set_cons_succ]
        refine wpAnyH_take (i := 3) (v := ?vbe1) rfl (by kernel_rfl) (by kernel_rfl) (by kernel_rfl) (fun _ _ _ h => h) (Or.inl ⟨by rfl, ?hybe1⟩) (by assumption) ?restbe1
        case hybe1 => (intro w hSw; (try dsimp only at hSw); go_simp; first | done | (with_reducible rfl))
        try simp only [Act.put, List.getElem_toArray, List.getElem_cons_zero, List.getElem_cons_succ, List.setIfInBounds_toArray, List.set_cons_zero, List.set_cons_succ]
        refine wpAnyH_take (i := 4) (v := ?vbe2) rfl (by kernel_rfl) (by kernel_rfl) (by kernel_rfl) (fun _ _ _ h => h) (Or.inl ⟨by rfl, ?hybe2⟩) (by assumption) ?restbe2
        case hybe2 => (intro w hSw; (try dsimp only at hSw); go_simp; first | done | (with_reducible rfl))
        try simp only [Act.put, List.getElem_toArray, List.getElem_cons_zero, List.getElem_cons_succ, List.setIfInBounds_toArray, List.set_cons_zero, List.set_cons_succ]
        refine wpAnyH_ready (rs := [1]) (by kernel_rfl) (by simp) ?_
        refine AllReadyH.cons rfl (fun K hK => ?_) AllReadyH.nil
        go_simp
        refine (HCT.out _ (Below.refl _ _).drew).mono ?_
        rintro e w9 ⟨v9, rfl, how, hb9⟩
        have HV9 := hide how.bs
        have hb9' := (Below.refl w8.heap.size w8).drew.trans hb9
        have HB9 := hide hb9'
        have HA9 := hide (HA8.out.step hb9')
        have HL9 := hide (HL8.out.step hb9')
        clear how hb9 hb9'
        refine hK.out _ _ (run_string_bs HA9.out.1) (fun hS3 => ?_)
        clear hK K
        refine heldMono (S' := (fun w' => (convert 28 9 vw).run Try.prog w' = .ok (.string ⟨(dContents D3).toArray⟩) w' ∧ (convert 28 9 v9).run Try.prog w' = .ok (.string ⟨(dContents D3).toArray⟩) w')) (fun _ h => h.1) _ _ _ _ ?_
        have hT3 : (fun w' => (convert 28 9 vw).run Try.prog w' = .ok (.string ⟨(dContents D3).toArray⟩) w' ∧ (convert 28 9 v9).run Try.prog w' = .ok (.string ⟨(dContents D3).toArray⟩) w') _ := ⟨run_string_bs HA9.out.1, run_string_bs HV9.out⟩
        try simp only [Act.put, List.getElem_toArray, List.getElem_cons_zero, List.getElem_cons_succ, List.setIfInBounds_toArray, List.set_cons_zero, List.set_cons_succ]
        refine wpAnyH_take (i := 2) (v := ?vbe4) rfl (by kernel_rfl) (by kernel_rfl) (by kernel_rfl) (fun _ _ _ h => h) (Or.inl ⟨by rfl, ?hybe4⟩) (by assumption) ?restbe4
        case hybe4 => (intro w hSw; (try dsimp only at hSw); go_simp; first | done | (with_reducible rfl))
        try simp only [Act.put, List.getElem_toArray, List.getElem_cons_zero, List.getElem_cons_succ, List.setIfInBounds_toArray, List.set_cons_zero, List.set_cons_succ]
        refine wpAnyH_take (i := 5) (v := ?vbe5) rfl (by kernel_rfl) (by kernel_rfl) (by kernel_rfl) (fun _ _ _ h => h) (Or.inl ⟨by rfl, ?hybe5⟩) (by assumption) ?restbe5
        case hybe5 => (intro w hSw; (try dsimp only at hSw); go_simp; first | done | (with_reducible rfl))
        try simp only [Act.put, List.getElem_toArray, List.getElem_cons_zero, List.getElem_cons_succ, List.setIfInBounds_toArray, List.set_cons_zero, List.set_cons_succ]
        refine wpAnyH_take (i := 6) (v := ?vbe6) rfl (by kernel_rfl) (by kernel_rfl) (by kernel_rfl) (fun _ _ _ h => h) (Or.inl ⟨by rfl, ?hybe6⟩) (by assumption) ?restbe6
        case hybe6 => (intro w hSw; (try dsimp only at hSw); go_simp; first | done | (with_reducible rfl))
        try simp only [Act.put, List.getElem_toArray, List.getElem_cons_zero, List.getElem_cons_succ, List.setIfInBounds_toArray, List.set_cons_zero, List.set_cons_succ]
        refine wpAnyH_take (i := 7) (v := ?vbe7) rfl (by kernel_rfl) (by kernel_rfl) (by kernel_rfl) (fun _ _ _ h => h) (Or.inl ⟨by rfl, ?hybe7⟩) (by assumption) ?restbe7
        case hybe7 => (intro w hSw; (try dsimp only at hSw); go_simp; first | done | (with_reducible rfl))
        try simp only [Act.put, List.getElem_toArray, List.getElem_cons_zero, List.getElem_cons_succ, List.setIfInBounds_toArray, List.set_cons_zero, List.set_cons_succ]
        refine wpAnyH_ready (rs := [8]) (by kernel_rfl) (by simp) ?_
        refine AllReadyH.cons rfl (fun K hK => ?_) AllReadyH.nil
        go_simp
        refine (HPD.out _ HB9.out).mono ?_
        rintro e wz ⟨rfl, rfl⟩
        refine hK.out _ _ (⟨run_string_bs HA9.out.1, run_string_bs HV9.out⟩) (fun hS8 => ?_)
        clear hK K
        try simp only [Act.put, List.getElem_toArray, List.getElem_cons_zero, List.getElem_cons_succ, List.setIfInBounds_toArray, List.set_cons_zero, List.set_cons_succ]
        refine wpAnyH_take (i := 9) (v := ?vbe9) rfl (by kernel_rfl) (by kernel_rfl) (by kernel_rfl) (fun _ _ _ h => h) (Or.inl ⟨by rfl, ?hybe9⟩) (by assumption) ?restbe9
        case hybe9 => (intro w hSw; (try dsimp only at hSw); go_simp; first | done | (with_reducible rfl))
        try simp only [Act.put, List.getElem_toArray, List.getElem_cons_zero, List.getElem_cons_succ, List.setIfInBounds_toArray, List.set_cons_zero, List.set_cons_succ]
        refine wpAnyH_take (i := 10) (v := ?vbe10) rfl (by kernel_rfl) (by kernel_rfl) (by kernel_rfl) (fun _ _ _ h => h) (Or.inl ⟨by rfl, ?hybe10⟩) (by assumption) ?restbe10
        case hybe10 => (intro w hSw; (try dsimp only at hSw); go_simp; first | done | (with_reducible rfl))
        try simp only [Act.put, List.getElem_toArray, List.getElem_cons_zero, List.getElem_cons_succ, List.setIfInBounds_toArray, List.set_cons_zero, List.set_cons_succ]
        refine wpAnyH_take (i := 11) (v := ?vbe11) rfl (by kernel_rfl) (by kernel_rfl) (by kernel_rfl) (fun _ _ _ h => h) (Or.inl ⟨by rfl, ?hybe11⟩) (by assumption) ?restbe11
        case hybe11 => (intro w hSw; (try dsimp only at hSw); go_simp; first | done | (with_reducible rfl))
        try simp only [Act.put, List.getElem_toArray, List.getElem_cons_zero, List.getElem_cons_succ, List.setIfInBounds_toArray, List.set_cons_zero, List.set_cons_succ]
        refine wpAnyH_done (by kernel_rfl) ?_ _
        go_wp2_with fail
        go_ret
        exact ⟨by first | rfl | simp, HL9.out.b⟩
end Go.Proofs.Ytlpnichgfhgdmaa
