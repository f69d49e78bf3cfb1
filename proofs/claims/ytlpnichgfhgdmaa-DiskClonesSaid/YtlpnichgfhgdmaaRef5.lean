/- The reference's Crash, Sync. -/
import Derived.Test.YtlpnichgfhgdmaaRef4
namespace Go.Proofs.Ytlpnichgfhgdmaa
open Go.ChangeShapes Go.WideShapes Go.ChangeAt Go.RowKit
set_option linter.unusedVariables false
set_option linter.unusedSimpArgs false

theorem settle_r (F : List Nat) (v : Value) (D : DS) (s : Value) (l : List Int) (w : World) (h : Rf w F v D) (hs : Is w s l) (hF : ∀ j ∈ F, j < w.heap.size) (hpl : D.pend.length ≤ 1000000) (hpg : D.pages.length ≤ 1000000) :
    Calls Try.prog 46 #[v, s] w (GivesR w F (dSettle D (fun i => l.getD i 0))) := by
  obtain ⟨dv, pv, vs, xs, rfl, hk⟩ := h
  exact settle_v F dv pv D vs xs s l w hk hs hF hpl hpg
theorem two_lt {F : List Nat} {w w' : World} (hF : ∀ j ∈ F, j < w.heap.size) (k : w.heap.size + 2 ≤ w'.heap.size) : ∀ j ∈ [w.heap.size, w.heap.size + 1] ++ F, j < w'.heap.size := by
  intro j hj
  simp at hj
  rcases hj with rfl | rfl | hj
  · omega
  · omega
  · have := hF j hj; omega
theorem two_in (F : List Nat) (w : World) : ∀ j ∈ [w.heap.size, w.heap.size + 1] ++ F, j ∈ F ∨ w.heap.size ≤ j := by
  intro j hj
  simp at hj
  rcases hj with rfl | rfl | hj
  · exact .inr (Nat.le_refl _)
  · exact .inr (Nat.le_succ _)
  · exact .inl hj
theorem Rf.two {w w' : World} {F : List Nat} {v : Value} {D : DS} (h : Rf w F v D) (k : Below w.heap.size w w') : Rf w' ([w.heap.size, w.heap.size + 1] ++ F) v D :=
  h.touch (Touch.below k F) fun j hj => by
    simp at hj
    rcases hj with rfl | rfl | hj
    · exact .inr (Nat.le_refl _)
    · exact .inr (Nat.le_succ _)
    · exact .inl hj
/-- Two stores into the call's own blocks do not touch the reference's disk. -/
theorem Rk.stored {w w1 w2 : World} {F : List Nat} {D : DS} {dv pv : Value} {vs : List Value} {xs : List (Nat × Value)} (h : Rk w1 ([w.heap.size, w.heap.size + 1] ++ F) D dv pv vs xs) (k : Touch [w.heap.size, w.heap.size + 1] w1 w2) : Rk w2 F D dv pv vs xs :=
  h.touch (k.mono fun s hs => .inl (by simp at hs ⊢; omega)) fun j hj => .inl (by simp [hj])
theorem Rf.form {w : World} {F : List Nat} {v : Value} {D : DS} (h : Rf w F v D) : ∃ A n c B m b vs xs, v = rv (.slice A n c) (.slice B m b) D ∧ Rk w F D (.slice A n c) (.slice B m b) vs xs := by
  obtain ⟨dv, pv, vs, xs, rfl, hk⟩ := h
  obtain ⟨A, c, rfl, _⟩ := hk.dur.form
  obtain ⟨B, b, rfl, _⟩ := hk.pend.form
  exact ⟨A, _, c, B, _, b, vs, xs, rfl, hk⟩

set_option maxRecDepth 100000 in
set_option maxHeartbeats 2000000 in
theorem crash_r (F : List Nat) (v : Value) (D : DS) (s : Value) (l : List Int) (w : World) (h : Rf w F v D) (hs : Is w s l) (hF : ∀ j ∈ F, j < w.heap.size) (hpl : D.pend.length ≤ 1000000) (hpg : D.pages.length ≤ 1000000) :
    Calls Try.prog 43 #[v, s] w (GivesR w F (dCrash D l)) := by
  have HF := hide hF
  have HOK := hide (dCrash_ok h.ok l)
  have HSE := hide (fun (w' : World) (k : Below w.heap.size w w') (k2 : w.heap.size + 2 ≤ w'.heap.size) => settle_r ([w.heap.size, w.heap.size + 1] ++ F) v D s l w' (h.two k) (hs.step k) (two_lt hF k2) hpl hpg)
  obtain ⟨A, n, c, B, m, b, vs, xs, rfl, hk⟩ := h.form
  obtain ⟨As, ms, cs, rfl, _, _, _⟩ := hs.formN
  unfold rv at HSE ⊢
  clear h hs hF hpl hpg hk
  generalize D.fuse = z at *
  generalize D.failed = fl at *
  go_enter Try.func43, Try.ntmps43
  go_wp2_with fail
  refine (HSE.out _ (below_two w _ _) (by simp [Nat.add_assoc])).mono ?_
  rintro e w1 ⟨v1, rfl, hr, hb1⟩
  obtain ⟨A1, n1, c1, B1, m1, b1, vs1, xs1, rfl, hk1⟩ := hr.form
  unfold rv
  have HK1 := hide hk1
  have hx1 : Blk w1 w.heap.size 53 #[.slice A n c, .slice B m b, .int .i64 z, .bool fl] := ((Blk.new w 53 _).alloc _).step hb1
  have hx2 : Blk w1 (w.heap.size + 1) 53 #[.slice none 0 0, .slice none 0 0, .int .i64 0, .bool false] := by
    have h := Blk.new (w.alloc (Obj.cells #[Value.slice A n c, Value.slice B m b, Value.int IntKind.i64 z, Value.bool fl] 53)) 53 #[.slice none 0 0, .slice none 0 0, .int .i64 0, .bool false]
    rw [World.size_alloc] at h
    exact h.step hb1
  have HB1 : Hid (Below w.heap.size w w1) := hide ((below_two w _ _).trans (hb1.mono (by simp [Nat.add_assoc])))
  have HX := hide hx1
  have HX2 := hide hx2
  obtain ⟨j0, j1, j2, j3, g0, g1, g2, g3⟩ := blk4 hx2
  clear hb1 hx1 hx2 hk1 hr
  generalize (dSettle D fun i => l.getD i 0).fuse = z1 at *
  generalize (dSettle D fun i => l.getD i 0).failed = fl1 at *
  go_wp2_with (first
    | (refine wpList_store_blk rfl 53 (.tmp 2) (.tmp 7) rfl w.heap.size 53 #[.slice A n c, .slice B m b, .int .i64 z, .bool fl] #[.slice A1 n1 c1, .slice B1 m1 b1, .int .i64 z1, .bool fl1] rfl rfl HX.out rfl size_disk (one_rv _ _ _ _ _ _ _ _) ?_; intro W2 hx1 ht2 hs2; obtain ⟨k0, k1, k2, k3, f0, f1, f2, f3⟩ := blk4 hx1; have HX1 := hide hx1; have HT2 := hide ht2; have hy2 := HX2.out.touch ht2 (by simp); have HY2 := hide hy2; clear j0 j1 j2 j3 g0 g1 g2 g3; obtain ⟨j0, j1, j2, j3, g0, g1, g2, g3⟩ := blk4 hy2; clear hx1 ht2 hs2 hy2))
  refine bodyPost_ret (results_cell_row rfl _ _ (w.heap.size + 1) 53 #[.slice A1 n1 c1, .slice B1 m1 b1, .int .i64 (-1), .bool false] (0, 0) _ rfl ?hr Try.underlying53 rfl size_disk) rfl ?hp
  case hr => exact ((((((HY2.out.far (by simp) _).far (by simp) _).put 0 _).put 1 _).put 2 _).put 3 _)
  case hp =>
    clear k0 k1 k2 k3 f0 f1 f2 f3 j0 j1 j2 j3 g0 g1 g2 g3
    have T5 : Touch [w.heap.size, w.heap.size + 1] w1 _ := (((((((HT2.out.mono (T := [w.heap.size, w.heap.size + 1]) (fun s hs => .inl (by simp at hs ⊢; omega))).set (g := w.heap.size) (.inl (by simp)) 2 (.int .i64 (-1))).set (g := w.heap.size) (.inl (by simp)) 3 (.bool false)).set (g := w.heap.size + 1) (.inl (by simp)) 0 (.slice A1 n1 c1)).set (g := w.heap.size + 1) (.inl (by simp)) 1 (.slice B1 m1 b1)).set (g := w.heap.size + 1) (.inl (by simp)) 2 (.int .i64 (-1))).set (g := w.heap.size + 1) (.inl (by simp)) 3 (.bool false))
    generalize hWf : (World.setCell _ _ _) = Wf at T5 ⊢
    exact ⟨_, rfl, ⟨_, _, vs1, xs1, rfl, (HK1.out.stored T5).other rfl rfl HOK.out⟩, Below.touch HB1.out T5 (by simp) HB1.out.size⟩

theorem settleFrom_congr (f g : Nat → Int) : ∀ (ws : List (Nat × List UInt8)) (i : Nat) (ps : List (List UInt8)), (∀ k, i ≤ k → k < i + ws.length → f k = g k) → settleFrom f i ws ps = settleFrom g i ws ps
  | [], _, _, _ => rfl
  | w :: ws, i, ps, h => by
    show settleFrom f (i + 1) ws _ = settleFrom g (i + 1) ws _
    rw [h i (Nat.le_refl _) (by simp), settleFrom_congr f g ws (i + 1) _ (fun k h1 h2 => h k (by omega) (by simp at h2 ⊢; omega))]
theorem dSettle_all (D : DS) : dSettle D (fun i => (List.replicate D.pend.length (128 : Int)).getD i 0) = dSettle D (fun _ => 128) := by
  unfold dSettle
  rw [settleFrom_congr _ (fun _ => 128) D.pend 0 D.pages (fun k _ h => by simp [List.getD, show k < D.pend.length by omega])]
theorem Row.is {w : World} {v : Value} {l : List Int} (h : Row w 3 1 v l.length (l.map (.int .i64 ·))) (hl : ∀ x ∈ l, -9223372036854775808 ≤ x ∧ x ≤ 9223372036854775807) : Is w v l := by
  obtain ⟨hlen, ⟨rfl, h0⟩ | ⟨g, cap, cur, rfl, hb, hh, hn, hm, hs, ht⟩⟩ := id h
  · exact ⟨none, 0, by rw [h0], by omega, by unfold maxLen; omega, hl, fun hp => by omega⟩
  · exact ⟨_, cap, rfl, hn, hm, hl, fun hp => ⟨g, 0, rfl, (World.ownsRow.lt h g rfl).2, fun j u hj => by have := World.ownsRow.cells h (g := g) rfl j u hj; rwa [add_plain] at this⟩⟩
theorem info_int : (Try.prog.info? 3).map (fun i => (i.zero, i.size, i.bytes)) = some (some (.int .i64 0), 1, 8) := by kernel_rfl

/-- Between two rounds of Sync: k numbers 128 in the call's own row. -/
def SyR (w : World) (A : Option Addr) (n c : Nat) (B : Option Addr) (m b : Nat) (z : Int) (w0 : World) (v4 v5 : Value) (W : World) : Prop :=
  ∃ k : Nat, v5 = .int .i64 k ∧ k ≤ m ∧ Row W 3 1 v4 k ((List.replicate k (128 : Int)).map (.int .i64 ·)) ∧ (∀ j, v4.ownBlock = some j → w.heap.size + 2 ≤ j) ∧
    Blk W w.heap.size 53 #[.slice A n c, .slice B m b, .int .i64 z, .bool false] ∧ Blk W (w.heap.size + 1) 53 #[.slice none 0 0, .slice none 0 0, .int .i64 0, .bool false] ∧ Below w.heap.size w W ∧ w.heap.size + 2 ≤ W.heap.size

set_option maxRecDepth 100000 in
set_option maxHeartbeats 4000000 in
theorem sync_r (F : List Nat) (v : Value) (D : DS) (w : World) (h : Rf w F v D) (hF : ∀ j ∈ F, j < w.heap.size) (hpl : D.pend.length ≤ 1000000) (hpg : D.pages.length ≤ 1000000) :
    Calls Try.prog 41 #[v] w (GivesRE w F (dSync D)) := by
  have HF := hide hF
  have hok := h.ok
  have HOKS := hide (dSync_ok hok)
  obtain ⟨A, n, c, B, m, b, vs, xs, rfl, hk⟩ := h.form
  have hnm : D.pend.length = m := by have := hk.pend.2; rcases this with ⟨e, h0⟩ | ⟨g, cap, cur, e, _⟩ <;> (injection e with e1 e2 e3; omega)
  cases hfl : D.failed with
  | true =>
    have e : dSync D = (D, 10) := by unfold dSync; rw [if_pos hfl]
    rw [e]
    have HK := hide hk
    unfold rv
    rw [hfl]
    clear e h hF hpl hpg hk HOKS hok hnm
    generalize hz : D.fuse = z
    go_enter Try.func41, Try.ntmps41
    go_wp2_with fail
    refine bodyPost_ret (v := .tuple #[.agg #[.slice A n c, .slice B m b, .int .i64 z, .bool true], .int .i64 10]) (by simp [results, Try.results41, go_sem]) rfl ?_
    exact ⟨_, rfl, ⟨_, _, vs, xs, by simp [rv, hz, hfl], HK.out.step (below_two _ _ _)⟩, below_two _ _ _⟩
  | false =>
    have HBU := hide (fun w => burn_v A n c B m b D hok.fuse w)
    have HPP := hide (dBurn_pages D)
    have HOKB := hide (dBurn_ok hok)
    by_cases hb2 : (dBurn D).2 = 0
    · have e : dSync D = (dSettle (dBurn D).1 (fun _ => 128), 0) := by unfold dSync; rw [if_neg (by simp [hfl]), if_pos hb2]
      have hbf : (dBurn D).1.failed = false := by
        unfold dBurn at hb2 ⊢
        split
        · rename_i h0; rw [if_pos h0] at hb2; simp at hb2
        · split <;> simpa using hfl
      have hpm : (dBurn D).1.pend.length = m := by rw [HPP.out.2]; exact hnm
      have hall := dSettle_all (dBurn D).1
      rw [hpm] at hall
      rw [e, ← hall]
      have HSE := hide (fun (w' : World) (s : Value) (k : Below w.heap.size w w') (k2 : w.heap.size + 2 ≤ w'.heap.size) (hs : Is w' s (List.replicate m (128 : Int))) => settle_r ([w.heap.size, w.heap.size + 1] ++ F) (rv (.slice A n c) (.slice B m b) (dBurn D).1) (dBurn D).1 s _ w' ⟨_, _, vs, xs, rfl, ((hk.other HPP.out.1 HPP.out.2 HOKB.out).touch (Touch.below k F) (two_in F w))⟩ hs (two_lt hF k2) (by rw [hpm]; omega) (by rw [HPP.out.1]; exact hpg))
      have HM : Hid (m ≤ 1000000) := hide (by omega)
      unfold rv at HSE HBU ⊢
      unfold Val2 rv at HBU
      rw [hbf] at HSE HBU
      rw [hfl] at HBU ⊢
      generalize D.fuse = z at *
      generalize (dBurn D).1.fuse = z1 at *
      generalize dSettle (dBurn D).1 (fun i => (List.replicate m (128 : Int)).getD i 0) = D2 at *
      clear e hall hbf hb2 h hk hF hok hnm hpl hpg hpm HOKS HOKB HPP
      go_enter Try.func41, Try.ntmps41
      go_wp2_with fail
      refine (HBU.out _).mono ?_
      rintro e w1 ⟨rfl, hb1⟩
      have hx1 : Blk w1 w.heap.size 53 #[.slice A n c, .slice B m b, .int .i64 z, .bool false] := ((Blk.new w 53 _).alloc _).step hb1
      have hx2 : Blk w1 (w.heap.size + 1) 53 #[.slice none 0 0, .slice none 0 0, .int .i64 0, .bool false] := by
        have h := Blk.new (w.alloc (Obj.cells #[Value.slice A n c, Value.slice B m b, Value.int IntKind.i64 z, Value.bool false] 53)) 53 #[.slice none 0 0, .slice none 0 0, .int .i64 0, .bool false]
        rw [World.size_alloc] at h
        exact h.step hb1
      have HB1 : Hid (Below w.heap.size w w1) := hide ((below_two w _ _).trans (hb1.mono (by simp [Nat.add_assoc])))
      have HS1 : Hid (w.heap.size + 2 ≤ w1.heap.size) := hide (by have := hb1.size; simp at this; omega)
      have HX := hide hx1
      have HX2 := hide hx2
      clear hb1 hx1 hx2 HBU
      go_wp2_with (first
        | (refine wpList_store_blk rfl 53 (.tmp 1) (.tmp 10) rfl w.heap.size 53 #[.slice A n c, .slice B m b, .int .i64 z, .bool false] #[.slice A n c, .slice B m b, .int .i64 z1, .bool false] rfl rfl HX.out rfl size_disk (one_rv _ _ _ _ _ _ _ _) ?_; intro W2 hx1 ht2 hs2; obtain ⟨k0, k1, k2, k3, f0, f1, f2, f3⟩ := blk4 hx1; have HX1 := hide hx1; have HT2 := hide ht2; have HS2 := hide hs2; have HY2 := hide (HX2.out.touch ht2 (by simp)); have HB2 : Hid (Below w.heap.size w W2) := hide (Below.touch HB1.out ht2 (by simp) HB1.out.size); clear hx1 ht2 hs2))
      clear k0 k1 k2 k3 f0 f1 f2 f3
      go_loopw [4, 5] (fun v4 v5 wr => SyR w A n c B m b z1 w v4 v5 wr) (fun _ v5 _ => m - (intOf v5).toNat)
      case atStart =>
        have hs2 : W2.heap.size = w1.heap.size := HS2.out
        exact ⟨0, rfl, Nat.zero_le _, ownsRow_low (ownsRow_empty W2 W2.heap.size 3 1 (Nat.le_refl _)), fun j hj => by have e : W2.heap.size = j := (by injection hj); have := HS1.out; omega, HX1.out.alloc _, HY2.out.alloc _, HB2.out.alloc HB2.out.size _, by have := HS1.out; rw [World.size_alloc]; omega⟩
      case round =>
        obtain ⟨k, rfl, hkm, hrow, hown, hbox, hres, hbw, hsz⟩ := hrel
        obtain ⟨k0, k1, k2, k3, f0, f1, f2, f3⟩ := blk4 hbox
        have HROW := hide hrow
        have HOWN := hide hown
        have HBOX := hide hbox
        have HRES := hide hres
        have HBW := hide hbw
        have HSZ := hide hsz
        obtain ⟨A4, c4, rfl, _, _⟩ := hrow.form
        clear hrow hown hbox hres hbw hsz HX1 HY2 HB2 HT2 HS2 HX HX2 HB1 HS1
        obtain ⟨i0, hi0, hz0, hz1, hz2⟩ := info_parts info_int
        by_cases hlt : k < m
        · have hkm' : (k : Int) < (m : Int) := by omega
          have HLT := hide hlt
          clear hlt hkm
          go_wp2_with (first
            | (refine wpList_append_row rfl (.tmp 22) (.tmp 23) 43 rfl 0 0 3 i0 _ 1 8 Try.underlying43 hi0 hz0 hz1 hz2 rfl (by decide) (v := .slice A4 k c4) (n := k) (m := 1) rfl (World.ownsRow.alloc HROW.out _) rfl (row_lit wr 0 3 1 1 [.int .i64 128] rfl (by decide) (Nat.zero_le _)) (by intro u hu; simp at hu; subst hu; rfl) (by have := HM.out; have := HLT.out; unfold maxLen; omega) (by have := HM.out; have := HLT.out; omega) (Nat.zero_le _) ?_; intro v1 W3 how hg hat; obtain ⟨A5, c5, rfl, _⟩ := Row.form how; have HO := hide how; have HG := hide hg; have HA := hide hat; clear how hg hat))
          go_roundw
          case rel =>
            have hgs := HG.out.size
            rw [World.size_alloc] at hgs
            have hb3 := HBW.out.alloc HBW.out.size (.cells #[.int .i64 128] 3)
            have hown2 := HOWN.out
            have hsz := HSZ.out
            refine ⟨k + 1, by go_num, HLT.out, ?_, ?_, ?_, ?_, ?_, by omega⟩
            · have e : (List.replicate (k + 1) (128 : Int)).map (Value.int IntKind.i64 ·) = (List.replicate k (128 : Int)).map (Value.int IntKind.i64 ·) ++ [.int .i64 128] := by rw [List.replicate_succ']; simp
              rw [e]; exact HO.out
            · intro j hj
              rcases HA.out with e | e
              · exact hown2 j (by rw [← e]; exact hj)
              · have e2 : j = (wr.alloc (.cells #[.int .i64 128] 3)).heap.size := by rw [hj] at e; injection e
                rw [World.size_alloc] at e2; omega
            · exact (HBOX.out.alloc _).grown HG.out (fun e => by have := hown2 _ e.symm; omega)
            · exact (HRES.out.alloc _).grown HG.out (fun e => by have := hown2 _ e.symm; omega)
            · exact hb3.grown HG.out (by rw [World.size_alloc]; have := HBW.out.size; omega) (fun j e => by have := hown2 j e; omega)
          case measure => have := HLT.out; simp [intOf]; omega
        · obtain rfl : k = m := by omega
          have HIS : Hid (Is wr (.slice A4 k c4) (List.replicate k (128 : Int))) := hide (Row.is (by have := HROW.out; rwa [show (List.replicate k (128 : Int)).length = k by simp]) (by intro x hx; have := List.eq_of_mem_replicate hx; omega))
          obtain ⟨j0, j1, j2, j3, g0, g1, g2, g3⟩ := blk4 HRES.out
          clear hlt hkm
          go_wp2_with fail
          refine (HSE.out wr _ HBW.out HSZ.out HIS.out).mono ?_
          rintro e W5 ⟨v5, rfl, hr5, hb5⟩
          obtain ⟨A6, n6, c6, B6, m6, b6, vs6, xs6, rfl, hk6⟩ := hr5.form
          unfold rv
          have HK6 := hide hk6
          have hy5 := HRES.out.step hb5
          have HY5 := hide hy5
          have HB5 : Hid (Below w.heap.size w W5) := hide (HBW.out.trans (hb5.mono HBW.out.size))
          clear j0 j1 j2 j3 g0 g1 g2 g3 k0 k1 k2 k3 f0 f1 f2 f3 hr5 hk6 hb5
          obtain ⟨j0, j1, j2, j3, g0, g1, g2, g3⟩ := blk4 hy5
          clear hy5
          go_wp2_with fail
          refine bodyPost_ret (results_row_tmp rfl _ _ (w.heap.size + 1) 53 #[.slice A6 n6 c6, .slice B6 m6 b6, .int .i64 D2.fuse, .bool D2.failed] (0, 0) _ (.int .i64 0) rfl rfl ?hr Try.underlying53 rfl size_disk) rfl ?hp
          case hr => exact ((((HY5.out.put 0 _).put 1 _).put 2 _).put 3 _)
          case hp =>
            have T5 : Touch [w.heap.size, w.heap.size + 1] W5 _ := ((((Touch.refl [w.heap.size, w.heap.size + 1] W5).set (g := w.heap.size + 1) (.inl (by simp)) 0 (.slice A6 n6 c6)).set (g := w.heap.size + 1) (.inl (by simp)) 1 (.slice B6 m6 b6)).set (g := w.heap.size + 1) (.inl (by simp)) 2 (.int .i64 D2.fuse)).set (g := w.heap.size + 1) (.inl (by simp)) 3 (.bool D2.failed)
            generalize hWf : (World.setCell _ _ _) = Wf at T5 ⊢
            exact ⟨_, rfl, ⟨_, _, vs6, xs6, rfl, HK6.out.stored T5⟩, Below.touch HB5.out T5 (by simp) HB5.out.size⟩
    · have hb0 : D.fuse = 0 := by
        apply Decidable.byContradiction
        intro hne
        apply hb2
        unfold dBurn; rw [if_neg hne]; split <;> rfl
      have hb : dBurn D = ({ D with failed := true }, 10) := by unfold dBurn; rw [if_pos hb0]
      have e : dSync D = ({ D with failed := true }, 10) := by unfold dSync; rw [if_neg (by simp [hfl]), if_neg (by rw [hb]; simp), hb]
      rw [e] at HOKS ⊢
      rw [hb] at HBU
      have HK := hide hk
      unfold Val2 rv at HBU
      unfold rv
      simp only at HBU ⊢
      rw [hfl] at HBU ⊢
      rw [hb0] at HBU ⊢
      clear e hb hb2 h hk hF hok hnm hpl hpg HOKB HPP
      go_enter Try.func41, Try.ntmps41
      go_wp2_with fail
      refine (HBU.out _).mono ?_
      rintro e w1 ⟨rfl, hb1⟩
      have hx1 : Blk w1 w.heap.size 53 #[.slice A n c, .slice B m b, .int .i64 0, .bool false] := ((Blk.new w 53 _).alloc _).step hb1
      have hx2 : Blk w1 (w.heap.size + 1) 53 #[.slice none 0 0, .slice none 0 0, .int .i64 0, .bool false] := by
        have h := Blk.new (w.alloc (Obj.cells #[Value.slice A n c, Value.slice B m b, Value.int IntKind.i64 0, Value.bool false] 53)) 53 #[.slice none 0 0, .slice none 0 0, .int .i64 0, .bool false]
        rw [World.size_alloc] at h
        exact h.step hb1
      have HB1 : Hid (Below w.heap.size w w1) := hide ((below_two w _ _).trans (hb1.mono (by simp [Nat.add_assoc])))
      have HX2 := hide hx2
      obtain ⟨k0, k1, k2, k3, f0, f1, f2, f3⟩ := blk4 hx1
      obtain ⟨j0, j1, j2, j3, g0, g1, g2, g3⟩ := blk4 hx2
      clear hb1 hx1 hx2 HBU
      go_wp2_with fail
      refine bodyPost_ret (results_row_tmp rfl _ _ (w.heap.size + 1) 53 #[.slice A n c, .slice B m b, .int .i64 0, .bool true] (0, 0) _ (.int .i64 10) rfl rfl ?hr Try.underlying53 rfl size_disk) rfl ?hp
      case hr => exact ((((((((HX2.out.far (by simp) _).far (by simp) _).far (by simp) _).far (by simp) _).put 0 _).put 1 _).put 2 _).put 3 _)
      case hp =>
        have T5 : Touch [w.heap.size, w.heap.size + 1] w1 _ := (((((((((Touch.refl [w.heap.size, w.heap.size + 1] w1).set (g := w.heap.size) (.inl (by simp)) 0 (.slice A n c)).set (g := w.heap.size) (.inl (by simp)) 1 (.slice B m b)).set (g := w.heap.size) (.inl (by simp)) 2 (.int .i64 0)).set (g := w.heap.size) (.inl (by simp)) 3 (.bool true)).set (g := w.heap.size + 1) (.inl (by simp)) 0 (.slice A n c)).set (g := w.heap.size + 1) (.inl (by simp)) 1 (.slice B m b)).set (g := w.heap.size + 1) (.inl (by simp)) 2 (.int .i64 0)).set (g := w.heap.size + 1) (.inl (by simp)) 3 (.bool true))
        generalize hWf : (World.setCell _ _ _) = Wf at T5 ⊢
        have hbf := Below.touch HB1.out T5 (by simp) HB1.out.size
        exact ⟨_, rfl, ⟨_, _, vs, xs, by simp [rv, hb0], (HK.out.step hbf).other rfl rfl (by have h := HOKS.out; rw [hb0] at h; exact h)⟩, hbf⟩
end Go.Proofs.Ytlpnichgfhgdmaa
