/- The walk of ChecksumMemory. -/
import Derived.Test.YtmnebingmedloaaSealsWalk
namespace Go.Proofs.Ytmnebingmedloaa
open Go.ChangeShapes Go.WideShapes Go.ChangeAt Go.RowKit
set_option linter.unusedVariables false

theorem Ow.head {w : World} {base : Nat} {v : Value} {x : UInt8} {l : List UInt8} (h : Ow w base v (x :: l)) :
    ∃ g cap cur, v = .slice (some ⟨g, 0, none⟩) (l.length + 1) cap ∧ base ≤ g ∧ Blk w g 5 cur ∧ cur[0]? = some (bv x) ∧ l.length + 1 ≤ cap ∧ cap ≤ 9223372036854775807 := by
  obtain ⟨hl, ⟨_, h0⟩ | ⟨g, cap, cur, hv, hg, hh, hn, hm, hs, ht⟩⟩ := h
  · simp at h0
  · refine ⟨g, cap, cur, by simpa using hv, hg, hh, ?_, by simpa using hn, by unfold maxLen at hm; omega⟩
    have h1 : (cur.toList.take ((x :: l).length * 1))[0]? = ((x :: l).map bv)[0]? := by rw [ht]
    rw [List.getElem?_take, if_pos (by simp), Array.getElem?_toList] at h1
    simpa using h1
theorem Bs.put {w : World} {v : Value} {l : List UInt8} (h : Bs w v l) {g i : Nat} (hne : v.ownBlock ≠ some g) (u : Value) : Bs (w.setCell ⟨g, i, none⟩ u) v l :=
  h.keep (by simp [World.setCell]) fun p hp hv => World.cell?_of_block (Below.heap_setCell _ _ _ _ (fun e => hne (by rw [hv]; exact congrArg some e)))

set_option maxHeartbeats 2000000 in
theorem walkChecksumMemory (W : World) (v0 : Value) (l0 : List UInt8) (h0 : Bs W v0 l0) :
    Calls Try.prog 7 #[v0] W fun e w' => e = .returned (.bool true) ∧ Below W.heap.size W w' := by
  obtain ⟨A, ca, rfl, hca, hma⟩ := h0.form
  have H0 := hide h0
  clear h0
  by_cases c0 : l0.length = 0
  · rw [c0] at hca ⊢
    clear H0 c0
    go_enter Try.func7, Try.ntmps7
    go_wp2_with fail
    refine (awake_c _).mono ?_
    rintro e w1 ⟨rfl, hb⟩
    go_wp2_with fail
    go_ret
    exact ⟨rfl, hb⟩
  obtain ⟨b0, r0, rfl⟩ : ∃ b0 r0, l0 = b0 :: r0 := by cases l0 with | nil => simp at c0 | cons a b => exact ⟨a, b, rfl⟩
  have HLn : Hid ((b0 :: r0).length = r0.length + 1) := hide rfl
  have HL1 : Hid (¬ 100 < (b0 :: r0).length → 0 + (b0 :: r0).length ≤ 140737488355328) := by unfold Hid; omega
  have HL2 : Hid (¬ 100 < (b0 :: r0).length → (b0 :: r0).length ≤ 100) := by unfold Hid; omega
  obtain ⟨bk, off, x, rfl, hbl, hx, hcell⟩ := H0.out.at_ (k := 0) (by simp)
  obtain rfl : b0 = x := by simpa using hx
  clear hx c0
  have c1 : 0 < (b0 :: r0).length := by simp
  by_cases c2 : 100 < (b0 :: r0).length
  · clear HL1 HL2
    generalize hn : (b0 :: r0).length = n at H0 hca c1 c2 ⊢
    clear hn HLn
    have c3 : ((n : Int) == 0) = false := by rw [beq_eq_false_iff_ne]; omega
    go_enter Try.func7, Try.ntmps7
    go_wp2_with fail
    refine (awake_c _).mono ?_
    rintro e w1 ⟨rfl, hb⟩
    go_wp2_with fail
    go_ret
    exact ⟨rfl, hb⟩
  replace HL1 := hide (HL1.out c2)
  replace HL2 := hide (HL2.out c2)
  generalize hn : (b0 :: r0).length = n at H0 hca c1 c2 HLn ⊢
  have HN := hide hn
  clear hn
  have c3 : ((n : Int) == 0) = false := by rw [beq_eq_false_iff_ne]; omega
  go_enter Try.func7, Try.ntmps7
  go_wp2_with fail
  refine (awake_c _).mono ?_
  rintro e wa ⟨rfl, hb⟩
  replace H0 := hide (H0.out.step hb)
  have HB := hide hb
  have HWa := hide hb.size
  clear hb
  go_wp2_with (at_builtin; refine wpList_append_bs rfl _ _ rfl wa.heap.size (l := []) (m := b0 :: r0) rfl (Ow.made [] #[] rfl (Nat.le_refl _) (by simp)) rfl (H0.out.alloc _) HL1.out (by simp) ?_; intro vx w1 hox hgx hwx; have hbx := below_grown ((Below.refl wa.heap.size wa).alloc (Nat.le_refl _) _) hgx (by simp) (Nat.le_refl _); have HX := hide hox; have HWX := hide hox.lt; replace H0 := hide (H0.out.step hbx); replace HB := hide (HB.out.trans (hbx.mono HB.out.size)); have HWA := hide hbx.size; clear hox hgx hwx hbx)
  refine (seal_c _ (b0 :: r0) _ HX.out.bs (by have := HL2.out; omega)).mono ?_
  rintro e w2 ⟨vs, rfl, hos, hbs⟩
  replace H0 := hide (H0.out.step hbs)
  replace HX := hide (HX.out.step hbs)
  have HS := hide hos
  have HW1 := hide hbs.size
  replace HB := hide (HB.out.trans (hbs.mono HB.out.size))
  clear hos hbs
  go_wp2_with fail
  refine (open_c _ _ _ HS.out.bs (by rw [seal_len]; have := HL2.out; omega)).mono ?_
  rintro e w3 ⟨vc, c, rfl, hoc, hbc, hc⟩
  rw [open_seal] at hc hoc
  obtain rfl : c = 0 := hc
  simp only [Option.getD_some] at hoc
  replace H0 := hide (H0.out.step hbc)
  obtain ⟨gx, px, cux, rfl, hgx, hbx, hx0, hpx, hpx2⟩ := (HX.out.step hbc).head
  obtain ⟨gs, ps, cus, rfl, hgs, hbs, hs0, hps, hps2⟩ := Ow.head (x := b0) (l := r0 ++ le4 (upd 0#32 (b0 :: r0))) (HS.out.step hbc)
  obtain ⟨C, cc, rfl, hcc, hcc2⟩ := hoc.form
  have HC : Hid (Bs w3 (.slice C (b0 :: r0).length cc) (b0 :: r0)) := hide hoc.bs
  replace HB := hide (HB.out.trans (hbc.mono HB.out.size))
  have HWC := hide hoc.lt
  have n1 : r0.length + 1 = n := by have := HLn.out; omega
  have n2 : (r0 ++ le4 (upd 0#32 (b0 :: r0))).length + 1 = n + 4 := by simp [le4]; omega
  rw [n2] at hps ⊢
  rw [n1] at hpx ⊢
  rw [HN.out] at hcc HC HWC ⊢
  have d1 : gx < gs := by have := (HWX.out gx rfl).2; omega
  have d2 : W.heap.size ≤ gx := by have := HWa.out; omega
  have dc : ∀ k, C = some k → gs < k.block := fun k hk => by
    have h1 := (HWC.out k.block (by rw [hk]; rfl)).1
    have h2 := (HS.out.lt gs rfl).2
    omega
  have hn4 : (0 : Int) < (n : Int) + 4 := by omega
  have hn0 : (0 : Int) < (n : Int) := by omega
  have d3 : bk ≠ gx := by omega
  have d4 : bk ≠ gs := by omega
  have d5 : gx ≠ gs := by omega
  have d6 : gs ≠ gx := by omega
  have hxc : w3.cell? ⟨gx, 0, none⟩ = some (.int .u8 (u8 b0)) := (hbx.cell 0).trans hx0
  have hsc : w3.cell? ⟨gs, 0, none⟩ = some (.int .u8 (u8 b0)) := (hbs.cell 0).trans hs0
  have hxf := hbx.froz 0
  have hsf := hbs.froz 0
  clear hoc hbc hbx hbs hx0 hs0 n1 n2 HX HS hgx hgs
  have HDC := hide dc
  clear dc
  go_wp2_with fail
  have e1 : Bs ((w3.setCell ⟨gs, 0, none⟩ (.int .u8 ((u8 b0 + 1) % 256))).setCell ⟨gx, 0, none⟩ (.int .u8 ((u8 b0 - 1) % 256))) (.slice C n cc) (b0 :: r0) := by
    have hC : ∀ g, g ≤ gs → (Value.slice C n cc).ownBlock ≠ some g := fun g hg => by
      cases C with
      | none => simp [Value.ownBlock]
      | some k => have := HDC.out k rfl; simp [Value.ownBlock]; omega
    exact (HC.out.put (hC gs (Nat.le_refl _)) _).put (hC gx (by omega)) _
  have e2 : Bs ((w3.setCell ⟨gs, 0, none⟩ (.int .u8 ((u8 b0 + 1) % 256))).setCell ⟨gx, 0, none⟩ (.int .u8 ((u8 b0 - 1) % 256))) (.slice (some ⟨bk, off, none⟩) n ca) (b0 :: r0) :=
    (H0.out.put (by simp [Value.ownBlock]; omega) _).put (by simp [Value.ownBlock]; omega) _
  have e3 : ((w3.setCell ⟨gs, 0, none⟩ (.int .u8 ((u8 b0 + 1) % 256))).setCell ⟨gx, 0, none⟩ (.int .u8 ((u8 b0 - 1) % 256))).cell? ⟨gs, 0, none⟩ = some (.int .u8 ((u8 b0 + 1) % 256)) := by
    rw [World.cell?_setCell_other _ _ _ _ (by intro h; injection h with h; omega)]
    exact World.cell?_setCell_same _ _ _ hsc
  have e4 : ((w3.setCell ⟨gs, 0, none⟩ (.int .u8 ((u8 b0 + 1) % 256))).setCell ⟨gx, 0, none⟩ (.int .u8 ((u8 b0 - 1) % 256))).cell? ⟨gx, 0, none⟩ = some (.int .u8 ((u8 b0 - 1) % 256)) :=
    World.cell?_setCell_same _ _ _ (u := .int .u8 (u8 b0)) (by rw [World.cell?_setCell_other _ _ _ _ (by intro h; injection h with h; omega)]; exact hxc)
  have e6 : Below W.heap.size W ((w3.setCell ⟨gs, 0, none⟩ (.int .u8 ((u8 b0 + 1) % 256))).setCell ⟨gx, 0, none⟩ (.int .u8 ((u8 b0 - 1) % 256))) :=
    (HB.out.setCell (p := ⟨gs, 0, none⟩) (by show W.heap.size ≤ gs; omega) _).setCell (p := ⟨gx, 0, none⟩) (by show W.heap.size ≤ gx; omega) _
  generalize (w3.setCell ⟨gs, 0, none⟩ (.int .u8 ((u8 b0 + 1) % 256))).setCell ⟨gx, 0, none⟩ (.int .u8 ((u8 b0 - 1) % 256)) = w4 at *
  have e5 : w4.cell? ⟨bk, off, none⟩ = some (.int .u8 (u8 b0)) := (e6.cell (p := ⟨bk, off, none⟩) hbl).trans hcell
  have HC2 := hide e1
  have H02 := hide e2
  have HS2 : Hid (w4.drew.cell? ⟨gs, 0, none⟩ = some (.int .u8 ((u8 b0 + 1) % 256))) := e3
  have HX2 : Hid (w4.drew.cell? ⟨gx, 0, none⟩ = some (.int .u8 ((u8 b0 - 1) % 256))) := e4
  have HB0 : Hid (w4.drew.cell? ⟨bk, off, none⟩ = some (.int .u8 (u8 b0))) := e5
  have HB2 := hide e6
  have wp := IntKind.wrap_u8 (u8 b0 + 1)
  have wm := IntKind.wrap_u8 (u8 b0 - 1)
  clear e1 e2 e3 e4 e5 e6 hxc hsc hxf hsf hcell
  refine wp_region_held_drew (S := (fun w' => (convert 23 9 (.slice C n cc)).run Try.prog w' = .ok (.string ⟨((b0 :: r0)).toArray⟩) w' ∧ (convert 23 9 (.slice (some ⟨bk, off, none⟩) n ca)).run Try.prog w' = .ok (.string ⟨((b0 :: r0)).toArray⟩) w' ∧ w'.cell? ⟨gs, 0, none⟩ = some (.int .u8 ((u8 b0 + 1) % 256)) ∧ w'.cell? ⟨gx, 0, none⟩ = some (.int .u8 ((u8 b0 - 1) % 256)) ∧ w'.cell? ⟨bk, off, none⟩ = some (.int .u8 (u8 b0)))) (by kernel_rfl) (⟨run_string_bs HC2.out, run_string_bs H02.out, HS2.out, HX2.out, HB0.out⟩) (fun hS0 => ?_)
  refine wpAnyH_take (i := 0) (v := ?vr0) rfl (by kernel_rfl) (by kernel_rfl) (by kernel_rfl) (fun _ _ _ h => h) (Or.inl ⟨by rfl, ?hyr0⟩) (by assumption) ?restr0
  case hyr0 => (intro w hSw; (try dsimp only at hSw); go_simp; first | done | (with_reducible rfl))
  try simp only [Act.put, List.getElem_toArray, List.getElem_cons_zero, List.getElem_cons_succ, List.setIfInBounds_toArray, List.set_cons_zero, List.set_cons_succ]
  refine wpAnyH_take (i := 1) (v := ?vr1) rfl (by kernel_rfl) (by kernel_rfl) (by kernel_rfl) (fun _ _ _ h => h) (Or.inl ⟨by rfl, ?hyr1⟩) (by assumption) ?restr1
  case hyr1 => (intro w hSw; (try dsimp only at hSw); go_simp; first | done | (with_reducible rfl))
  try simp only [Act.put, List.getElem_toArray, List.getElem_cons_zero, List.getElem_cons_succ, List.setIfInBounds_toArray, List.set_cons_zero, List.set_cons_succ]
  refine wpAnyH_take (i := 2) (v := ?vr2) rfl (by kernel_rfl) (by kernel_rfl) (by kernel_rfl) (fun _ _ _ h => h) (Or.inl ⟨by rfl, ?hyr2⟩) (by assumption) ?restr2
  case hyr2 => (intro w hSw; (try dsimp only at hSw); go_simp; first | done | (with_reducible rfl))
  try simp only [Act.put, List.getElem_toArray, List.getElem_cons_zero, List.getElem_cons_succ, List.setIfInBounds_toArray, List.set_cons_zero, List.set_cons_succ]
  refine wpAnyH_take (i := 3) (v := ?vr3) rfl (by kernel_rfl) (by kernel_rfl) (by kernel_rfl) (fun _ _ _ h => h) (Or.inl ⟨by rfl, ?hyr3⟩) (by assumption) ?restr3
  case hyr3 => (intro w hSw; (try dsimp only at hSw); go_simp; first | done | (with_reducible rfl))
  try simp only [Act.put, List.getElem_toArray, List.getElem_cons_zero, List.getElem_cons_succ, List.setIfInBounds_toArray, List.set_cons_zero, List.set_cons_succ]
  refine wpAnyH_take (i := 4) (v := ?vr4) rfl (by kernel_rfl) (by kernel_rfl) (by kernel_rfl) (fun _ _ _ h => h) (Or.inl ⟨by rfl, ?hyr4⟩) (by assumption) ?restr4
  case hyr4 => (intro w hSw; (try dsimp only at hSw); go_simp; first | done | (with_reducible rfl))
  try simp only [Act.put, List.getElem_toArray, List.getElem_cons_zero, List.getElem_cons_succ, List.setIfInBounds_toArray, List.set_cons_zero, List.set_cons_succ]
  refine wpAnyH_take (i := 5) (v := ?vr5) rfl (by kernel_rfl) (by kernel_rfl) (by kernel_rfl) (fun _ _ _ h => h) (Or.inl ⟨by rfl, ?hyr5⟩) (by assumption) ?restr5
  case hyr5 => (intro w hSw; (try dsimp only at hSw); go_simp; first | done | (with_reducible rfl))
  try simp only [Act.put, List.getElem_toArray, List.getElem_cons_zero, List.getElem_cons_succ, List.setIfInBounds_toArray, List.set_cons_zero, List.set_cons_succ]
  refine wpAnyH_take (i := 6) (v := ?vr6) rfl (by kernel_rfl) (by kernel_rfl) (by kernel_rfl) (fun _ _ _ h => h) (Or.inl ⟨by rfl, ?hyr6⟩) (by assumption) ?restr6
  case hyr6 => (intro w hSw; (try dsimp only at hSw); go_simp; first | done | (with_reducible rfl))
  try simp only [Act.put, List.getElem_toArray, List.getElem_cons_zero, List.getElem_cons_succ, List.setIfInBounds_toArray, List.set_cons_zero, List.set_cons_succ]
  refine wpAnyH_take (i := 7) (v := ?vr7) rfl (by kernel_rfl) (by kernel_rfl) (by kernel_rfl) (fun _ _ _ h => h) (Or.inl ⟨by rfl, ?hyr7⟩) (by assumption) ?restr7
  case hyr7 => (intro w hSw; (try dsimp only at hSw); go_simp; first | done | (with_reducible rfl))
  try simp only [Act.put, List.getElem_toArray, List.getElem_cons_zero, List.getElem_cons_succ, List.setIfInBounds_toArray, List.set_cons_zero, List.set_cons_succ]
  refine wpAnyH_take (i := 8) (v := ?vr8) rfl (by kernel_rfl) (by kernel_rfl) (by kernel_rfl) (fun _ _ _ h => h) (Or.inl ⟨by rfl, ?hyr8⟩) (by assumption) ?restr8
  case hyr8 => (intro w hSw; (try dsimp only at hSw); go_simp; first | done | (with_reducible rfl))
  try simp only [Act.put, List.getElem_toArray, List.getElem_cons_zero, List.getElem_cons_succ, List.setIfInBounds_toArray, List.set_cons_zero, List.set_cons_succ]
  refine wpAnyH_take (i := 9) (v := ?vr9) rfl (by kernel_rfl) (by kernel_rfl) (by kernel_rfl) (fun _ _ _ h => h) (Or.inl ⟨by rfl, ?hyr9⟩) (by assumption) ?restr9
  case hyr9 => (intro w hSw; (try dsimp only at hSw); go_simp; first | done | (with_reducible rfl))
  try simp only [Act.put, List.getElem_toArray, List.getElem_cons_zero, List.getElem_cons_succ, List.setIfInBounds_toArray, List.set_cons_zero, List.set_cons_succ]
  refine wpAnyH_take (i := 10) (v := ?vr10) rfl (by kernel_rfl) (by kernel_rfl) (by kernel_rfl) (fun _ _ _ h => h) (Or.inl ⟨by rfl, ?hyr10⟩) (by assumption) ?restr10
  case hyr10 => (intro w hSw; (try dsimp only at hSw); go_simp; first | done | (with_reducible rfl))
  try simp only [Act.put, List.getElem_toArray, List.getElem_cons_zero, List.getElem_cons_succ, List.setIfInBounds_toArray, List.set_cons_zero, List.set_cons_succ]
  refine wpAnyH_take (i := 11) (v := ?vr11) rfl (by kernel_rfl) (by kernel_rfl) (by kernel_rfl) (fun _ _ _ h => h) (Or.inl ⟨by rfl, ?hyr11⟩) (by assumption) ?restr11
  case hyr11 => (intro w hSw; (try dsimp only at hSw); go_simp; first | done | (with_reducible rfl))
  try simp only [Act.put, List.getElem_toArray, List.getElem_cons_zero, List.getElem_cons_succ, List.setIfInBounds_toArray, List.set_cons_zero, List.set_cons_succ]
  refine wpAnyH_take (i := 12) (v := ?vr12) rfl (by kernel_rfl) (by kernel_rfl) (by kernel_rfl) (fun _ _ _ h => h) (Or.inl ⟨by rfl, ?hyr12⟩) (by assumption) ?restr12
  case hyr12 => (intro w hSw; (try dsimp only at hSw); go_simp; first | done | (with_reducible rfl))
  try simp only [Act.put, List.getElem_toArray, List.getElem_cons_zero, List.getElem_cons_succ, List.setIfInBounds_toArray, List.set_cons_zero, List.set_cons_succ]
  refine wpAnyH_take (i := 13) (v := ?vr13) rfl (by kernel_rfl) (by kernel_rfl) (by kernel_rfl) (fun _ _ _ h => h) (Or.inl ⟨by rfl, ?hyr13⟩) (by assumption) ?restr13
  case hyr13 => (intro w hSw; (try dsimp only at hSw); go_simp; first | done | (with_reducible rfl))
  try simp only [Act.put, List.getElem_toArray, List.getElem_cons_zero, List.getElem_cons_succ, List.setIfInBounds_toArray, List.set_cons_zero, List.set_cons_succ]
  refine wpAnyH_take (i := 14) (v := ?vr14) rfl (by kernel_rfl) (by kernel_rfl) (by kernel_rfl) (fun _ _ _ h => h) (Or.inl ⟨by rfl, ?hyr14⟩) (by assumption) ?restr14
  case hyr14 => (intro w hSw; (try dsimp only at hSw); go_simp; first | done | (with_reducible rfl))
  try simp only [Act.put, List.getElem_toArray, List.getElem_cons_zero, List.getElem_cons_succ, List.setIfInBounds_toArray, List.set_cons_zero, List.set_cons_succ]
  refine wpAnyH_take (i := 15) (v := ?vr15) rfl (by kernel_rfl) (by kernel_rfl) (by kernel_rfl) (fun _ _ _ h => h) (Or.inl ⟨by rfl, ?hyr15⟩) (by assumption) ?restr15
  case hyr15 => (intro w hSw; (try dsimp only at hSw); go_simp; first | done | (with_reducible rfl))
  try simp only [Act.put, List.getElem_toArray, List.getElem_cons_zero, List.getElem_cons_succ, List.setIfInBounds_toArray, List.set_cons_zero, List.set_cons_succ]
  refine wpAnyH_take (i := 16) (v := ?vr16) rfl (by kernel_rfl) (by kernel_rfl) (by kernel_rfl) (fun _ _ _ h => h) (Or.inl ⟨by rfl, ?hyr16⟩) (by assumption) ?restr16
  case hyr16 => (intro w hSw; (try dsimp only at hSw); go_simp; first | done | (with_reducible rfl))
  try simp only [Act.put, List.getElem_toArray, List.getElem_cons_zero, List.getElem_cons_succ, List.setIfInBounds_toArray, List.set_cons_zero, List.set_cons_succ]
  refine wpAnyH_take (i := 17) (v := ?vr17) rfl (by kernel_rfl) (by kernel_rfl) (by kernel_rfl) (fun _ _ _ h => h) (Or.inl ⟨by rfl, ?hyr17⟩) (by assumption) ?restr17
  case hyr17 => (intro w hSw; (try dsimp only at hSw); go_simp; first | done | (with_reducible rfl))
  try simp only [Act.put, List.getElem_toArray, List.getElem_cons_zero, List.getElem_cons_succ, List.setIfInBounds_toArray, List.set_cons_zero, List.set_cons_succ]
  refine wpAnyH_take (i := 18) (v := ?vr18) rfl (by kernel_rfl) (by kernel_rfl) (by kernel_rfl) (fun _ _ _ h => h) (Or.inl ⟨by rfl, ?hyr18⟩) (by assumption) ?restr18
  case hyr18 => (intro w hSw; (try dsimp only at hSw); go_simp; first | done | (with_reducible rfl))
  try simp only [Act.put, List.getElem_toArray, List.getElem_cons_zero, List.getElem_cons_succ, List.setIfInBounds_toArray, List.set_cons_zero, List.set_cons_succ]
  refine wpAnyH_take (i := 19) (v := ?vr19) rfl (by kernel_rfl) (by kernel_rfl) (by kernel_rfl) (fun _ _ _ h => h) (Or.inl ⟨by rfl, ?hyr19⟩) (by assumption) ?restr19
  case hyr19 => (intro w hSw; (try dsimp only at hSw); go_simp; first | done | (with_reducible rfl))
  try simp only [Act.put, List.getElem_toArray, List.getElem_cons_zero, List.getElem_cons_succ, List.setIfInBounds_toArray, List.set_cons_zero, List.set_cons_succ]
  refine wpAnyH_take (i := 20) (v := ?vr20) rfl (by kernel_rfl) (by kernel_rfl) (by kernel_rfl) (fun _ _ _ h => h) (Or.inl ⟨by rfl, ?hyr20⟩) (by assumption) ?restr20
  case hyr20 => (intro w hSw; (try dsimp only at hSw); go_simp; first | done | (with_reducible rfl))
  try simp only [Act.put, List.getElem_toArray, List.getElem_cons_zero, List.getElem_cons_succ, List.setIfInBounds_toArray, List.set_cons_zero, List.set_cons_succ]
  refine wpAnyH_take (i := 21) (v := ?vr21) rfl (by kernel_rfl) (by kernel_rfl) (by kernel_rfl) (fun _ _ _ h => h) (Or.inl ⟨by rfl, ?hyr21⟩) (by assumption) ?restr21
  case hyr21 => (intro w hSw; (try dsimp only at hSw); go_simp; first | done | (with_reducible rfl))
  try simp only [Act.put, List.getElem_toArray, List.getElem_cons_zero, List.getElem_cons_succ, List.setIfInBounds_toArray, List.set_cons_zero, List.set_cons_succ]
  refine wpAnyH_take (i := 22) (v := ?vr22) rfl (by kernel_rfl) (by kernel_rfl) (by kernel_rfl) (fun _ _ _ h => h) (Or.inl ⟨by rfl, ?hyr22⟩) (by assumption) ?restr22
  case hyr22 => (intro w hSw; (try dsimp only at hSw); go_simp; first | done | (with_reducible rfl))
  try simp only [Act.put, List.getElem_toArray, List.getElem_cons_zero, List.getElem_cons_succ, List.setIfInBounds_toArray, List.set_cons_zero, List.set_cons_succ]
  refine wpAnyH_take (i := 23) (v := ?vr23) rfl (by kernel_rfl) (by kernel_rfl) (by kernel_rfl) (fun _ _ _ h => h) (Or.inl ⟨by rfl, ?hyr23⟩) (by assumption) ?restr23
  case hyr23 => (intro w hSw; (try dsimp only at hSw); go_simp; first | done | (with_reducible rfl))
  try simp only [Act.put, List.getElem_toArray, List.getElem_cons_zero, List.getElem_cons_succ, List.setIfInBounds_toArray, List.set_cons_zero, List.set_cons_succ]
  refine wpAnyH_take (i := 24) (v := ?vr24) rfl (by kernel_rfl) (by kernel_rfl) (by kernel_rfl) (fun _ _ _ h => h) (Or.inl ⟨by rfl, ?hyr24⟩) (by assumption) ?restr24
  case hyr24 => (intro w hSw; (try dsimp only at hSw); go_simp; first | done | (with_reducible rfl))
  try simp only [Act.put, List.getElem_toArray, List.getElem_cons_zero, List.getElem_cons_succ, List.setIfInBounds_toArray, List.set_cons_zero, List.set_cons_succ]
  refine wpAnyH_take (i := 25) (v := ?vr25) rfl (by kernel_rfl) (by kernel_rfl) (by kernel_rfl) (fun _ _ _ h => h) (Or.inl ⟨by rfl, ?hyr25⟩) (by assumption) ?restr25
  case hyr25 => (intro w hSw; (try dsimp only at hSw); go_simp; first | done | (with_reducible rfl))
  try simp only [Act.put, List.getElem_toArray, List.getElem_cons_zero, List.getElem_cons_succ, List.setIfInBounds_toArray, List.set_cons_zero, List.set_cons_succ]
  refine wpAnyH_done (by kernel_rfl) ?_ _
  go_wp2_with fail
  go_ret
  exact ⟨rfl, HB2.out.drew⟩
end Go.Proofs.Ytmnebingmedloaa
