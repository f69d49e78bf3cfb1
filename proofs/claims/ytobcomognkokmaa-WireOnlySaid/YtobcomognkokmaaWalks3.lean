/- The walk of WireOnly. -/
import Derived.Test.YtobcomognkokmaaWalks2
import Derived.Deep.DeepCutAuto
namespace Go.Proofs.Ytobcomognkokmaa
set_option linter.unusedSimpArgs false
open Go.ChangeShapes Go.WideShapes Go.ChangeAt Go.RowKit
set_option linter.unusedVariables false

theorem take_used {l a t : List UInt8} (h : a ++ t = l) : l.take (l.length - t.length) = a := by
  rw [← h, List.length_append, Nat.add_sub_cancel, List.take_left]
theorem only_text {l t : List UInt8} {n : Nat} (h : parseN l = some (n, t)) (hn : n ≤ t.length) : encT ⟨(t.take n).toArray⟩ ++ t.drop n = l := by
  obtain ⟨h1, _⟩ := parseN_some h
  have hl : (t.take n).length = n := by rw [List.length_take]; omega
  have hs : (⟨(t.take n).toArray⟩ : ByteArray).size = n := by show (t.take n).toArray.size = n; simp; omega
  unfold encT
  rw [hs, List.append_assoc]
  show enc n ++ ((t.take n).toArray.toList ++ t.drop n) = l
  rw [show (t.take n).toArray.toList = t.take n from rfl, List.take_append_drop, h1]

theorem bool_cases (l : List UInt8) : (rBool (l, 0) = (bad 11, false)) ∨ ∃ x t, rBool (l, 0) = ((t, 0), x) ∧ [bb x] ++ t = l := by
  cases l with
  | nil => exact .inl rfl
  | cons h t =>
    by_cases hx : 1 < h.toNat
    · left; simp [rBool, hx]
    · right
      refine ⟨h.toNat == 1, t, by simp [rBool, hx], ?_⟩
      show bb (h.toNat == 1) :: t = h :: t
      congr 1
      apply UInt8.toNat_inj.1
      rcases Nat.le_one_iff_eq_zero_or_eq_one.1 (Nat.not_lt.1 hx) with h0 | h0 <;> rw [h0] <;> rfl
theorem num_cases (l : List UInt8) : (rNum (l, 0) = (bad 11, 0)) ∨ ∃ n t, rNum (l, 0) = ((t, 0), n) ∧ enc n ++ t = l ∧ n < 2 ^ 64 := by
  cases h : parseN l with
  | none => left; simp [rNum, h]
  | some p => obtain ⟨n, t⟩ := p; exact .inr ⟨n, t, by simp [rNum, h], parseN_some h⟩
theorem text_cases (l : List UInt8) : (rText (l, 0) = (bad 11, [])) ∨ ∃ s t, rText (l, 0) = ((t, 0), s) ∧ encT ⟨s.toArray⟩ ++ t = l := by
  cases h : parseN l with
  | none => left; simp [rText, h]
  | some p =>
    obtain ⟨n, t⟩ := p
    by_cases ht : t.length < n
    · left; simp [rText, h, ht]
    · exact .inr ⟨t.take n, t.drop n, by simp [rText, h, ht], only_text h (by omega)⟩

theorem text_small {x t l : List UInt8} (hl : encT ⟨x.toArray⟩ ++ t = l) (h : l.length ≤ 200) : (⟨x.toArray⟩ : ByteArray).size ≤ 35184372088832 := by
  have h1 := congrArg List.length hl
  have h2 : (⟨x.toArray⟩ : ByteArray).size = x.length := by show x.toArray.size = _; simp
  have h3 : (⟨x.toArray⟩ : ByteArray).data.toList.length = x.length := by simp
  simp only [encT, List.length_append] at h1
  omega
/-- Whether the reader goes on. -/
def okB (r : RS) : Bool := r.2 == 0

set_option maxRecDepth 100000 in
set_option maxHeartbeats 8000000 in
theorem walkWireOnly (W : World) (v0 : Value) (l : List UInt8) (h0 : Bs W v0 l) :
    Calls Try.prog 6 #[v0] W fun e w' => e = .returned (.bool true) ∧ Below W.heap.size W w' := by
  obtain ⟨A, n, c, rfl, hn, hnc, hcm⟩ := h0.formN
  by_cases h200 : 200 < n
  · have hi : (200 : Int) < (n : Int) := by omega
    clear h0
    go_enter Try.func6, Try.ntmps6
    go_wp2_with fail
    refine (awake_c _).mono ?_
    rintro e w1 ⟨rfl, hb⟩
    go_wp2_with fail
    go_ret
    exact ⟨rfl, hb⟩
  have hi : ¬ (200 : Int) < (n : Int) := by omega
  have HLL : Hid (l.length ≤ 140737488355328) := hide (by have := hn.out; omega)
  have HL2 : Hid (l.length ≤ 200) := hide (by have := hn.out; omega)
  have H := hide h0
  clear h0
  go_enter Try.func6, Try.ntmps6
  go_wp2_with fail
  refine (awake_c _).mono ?_
  rintro e w11 ⟨rfl, hb⟩
  have HB := hide hb
  clear hb
  go_wp2_with fail
  refine (newReader_c _ l w11 (H.out.step HB.out) HLL.out).mono ?_
  rintro e w12 ⟨b, k, rfl, hr, hb, hge, hk⟩
  have HR := hide hr
  have HK : Hid (∀ j, k = some j → j < w12.heap.size) := hide fun j hj => (hk j hj).2
  have HBG : Hid (W.heap.size ≤ b) := hide (Nat.le_trans HB.out.size hge)
  replace HB := hide (HB.out.trans (hb.mono HB.out.size))
  clear hr hb hge hk
  go_wp2_with fail
  have HC := hide (rdNumber_c b k l 0 _ HR.out HLL.out)
  have HNC := hide (num_cases l)
  have HLE : Hid ((rNum (l, 0)).1.1.length ≤ l.length) := hide (rNum_len l 0)
  generalize rNum (l, 0) = r1 at *
  refine HC.out.mono ?_
  rintro e w13 ⟨rfl, hr, ht⟩
  replace HR := hide hr
  replace HB := hide (Below.touch HB.out ht (by simp; exact HBG.out) HB.out.size)
  clear hr ht HC HK
  go_upto_region 7 with fail
  go_cut [25] (fun s wx => s = .bool (okB r1.1) ∧ w13 = wx)
  case first =>
    rcases HNC.out with rfl | ⟨x, t, rfl, hl⟩
    · replace HR : Hid (Rd w13 b k [] 11) := hide HR.out
      clear HNC HLE
      go_wp2_with fail
      refine (left_c b k [] 11 _ HR.out).mono ?_
      rintro e wl ⟨rfl, rfl⟩
      go_wp2_with fail
      refine (end_c b k [] 11 _ HR.out).mono ?_
      rintro e wl ⟨rfl, rfl⟩
      rw [stop_end]
      go_wp2_with fail
      go_meet
      case rel => exact ⟨rfl, rfl⟩
    · replace HR : Hid (Rd w13 b k t 0) := hide HR.out
      have HOK : Hid (okB (t, 0) = true) := hide rfl
      cases t with
      | nil =>
        clear HNC HLE hl
        go_wp2_with fail
        refine (left_c b k [] 0 _ HR.out).mono ?_
        rintro e wl ⟨rfl, rfl⟩
        go_wp2_with fail
        refine (end_c b k [] 0 _ HR.out).mono ?_
        rintro e wl ⟨rfl, rfl⟩
        rw [show rEnd (([] : List UInt8), 0) = 0 from rfl]
        go_wp2_with fail
        go_meet
        case rel => exact ⟨rfl, rfl⟩
      | cons y t' =>
        have htp : (0 : Int) < ((y :: t').length : Int) := by simp only [List.length_cons]; omega
        obtain ⟨t, ht⟩ : ∃ t, t = y :: t' := ⟨_, rfl⟩
        rw [← ht] at HR htp
        obtain ⟨tl, htl⟩ : ∃ tl, tl = t.length := ⟨_, rfl⟩
        rw [← htl] at htp
        have HTL : Hid (t.length = tl) := hide htl.symm
        clear HNC HLE hl ht htl
        go_wp2_with fail
        refine (left_c b k t 0 _ HR.out).mono ?_
        rintro e wl ⟨rfl, rfl⟩
        rw [HTL.out]
        go_wp2_with fail
        go_meet
        case rel => exact ⟨rfl, rfl⟩
  case rest =>
  obtain ⟨rfl, rfl⟩ := hcut
  go_upto_if 25 with fail
  go_cut [] (fun wx => Below W.heap.size W wx)
  case first =>
    rcases HNC.out with rfl | ⟨x, t, rfl, hl⟩
    · rw [show okB (bad 11) = false from rfl]
      go_wp2_with fail
      go_meet
      case rel => exact HB.out
    · rw [show okB (t, 0) = true from rfl]
      replace HR : Hid (Rd w13 b k t 0) := hide HR.out
      obtain ⟨u, hu⟩ : ∃ u, u = l.length - t.length := ⟨_, rfl⟩
      have htl : t.length ≤ l.length := HLE.out
      have HU : Hid (Bs W (.slice A u c) (enc x)) := hide (by have := H.out.take (k := u) (by have := hn.out; omega); rw [hu, take_used hl.1] at this; rw [← hu] at this; exact this)
      have hut : u ≤ n := by have := hn.out; omega
      have hw : IntKind.i64.wrap ((n : Int) - (t.length : Int)) = (u : Int) := by have := hn.out; rw [IntWalk.i64_in _ (by omega)]; omega
      have hsub : (n : Int) - (t.length : Int) = (u : Int) := by have := hn.out; omega
      have huc : u ≤ c := by omega
      have HX64 := hide hl.2
      clear hu HNC HLE hl
      obtain ⟨tl, htl2⟩ : ∃ tl, tl = t.length := ⟨_, rfl⟩
      rw [← htl2] at hw hsub htl
      have HTL : Hid (t.length = tl) := hide htl2.symm
      clear htl2
      go_wp2_with fail
      refine (left_c b k t 0 _ HR.out).mono ?_
      rintro e wl ⟨rfl, rfl⟩
      rw [HTL.out]
      go_wp2_with fail
      refine wp_region_held_drew (S := (fun w' => (convert 22 9 (.slice A u c)).run Try.prog w' = .ok (.string ⟨(enc x).toArray⟩) w')) (by kernel_rfl) (run_string_bs (HU.out.step HB.out).drew) (fun hS0 => ?_)
      refine wpAnyH_take (i := 0) (v := ?vprNum0) rfl (by kernel_rfl) (by kernel_rfl) (by kernel_rfl) (fun _ _ _ h => h) (Or.inl ⟨by rfl, ?hyprNum0⟩) (by assumption) ?restprNum0
      case hyprNum0 => (intro w hSw; (try dsimp only at hSw); go_simp; first | done | (with_reducible rfl))
      try simp only [Act.put, List.getElem_toArray, List.getElem_cons_zero, List.getElem_cons_succ, List.setIfInBounds_toArray, List.set_cons_zero, List.set_cons_succ]
      refine wpAnyH_take (i := 3) (v := ?vprNum1) rfl (by kernel_rfl) (by kernel_rfl) (by kernel_rfl) (fun _ _ _ h => h) (Or.inl ⟨by rfl, ?hyprNum1⟩) (by assumption) ?restprNum1
      case hyprNum1 => (intro w hSw; (try dsimp only at hSw); go_simp; first | done | (with_reducible rfl))
      try simp only [Act.put, List.getElem_toArray, List.getElem_cons_zero, List.getElem_cons_succ, List.setIfInBounds_toArray, List.set_cons_zero, List.set_cons_succ]
      refine wpAnyH_take (i := 4) (v := ?vprNum2) rfl (by kernel_rfl) (by kernel_rfl) (by kernel_rfl) (fun _ _ _ h => h) (Or.inl ⟨by rfl, ?hyprNum2⟩) (by assumption) ?restprNum2
      case hyprNum2 => (intro w hSw; (try dsimp only at hSw); go_simp; first | done | (with_reducible rfl))
      try simp only [Act.put, List.getElem_toArray, List.getElem_cons_zero, List.getElem_cons_succ, List.setIfInBounds_toArray, List.set_cons_zero, List.set_cons_succ]
      refine wpAnyH_take (i := 5) (v := ?vprNum3) rfl (by kernel_rfl) (by kernel_rfl) (by kernel_rfl) (fun _ _ _ h => h) (Or.inl ⟨by rfl, ?hyprNum3⟩) (by assumption) ?restprNum3
      case hyprNum3 => (intro w hSw; (try dsimp only at hSw); go_simp; first | done | (with_reducible rfl))
      try simp only [Act.put, List.getElem_toArray, List.getElem_cons_zero, List.getElem_cons_succ, List.setIfInBounds_toArray, List.set_cons_zero, List.set_cons_succ]
      refine wpAnyH_take (i := 6) (v := ?vprNum4) rfl (by kernel_rfl) (by kernel_rfl) (by kernel_rfl) (fun _ _ _ h => h) (Or.inl ⟨by rfl, ?hyprNum4⟩) (by assumption) ?restprNum4
      case hyprNum4 => (intro w hSw; (try dsimp only at hSw); go_simp; first | done | (with_reducible rfl))
      try simp only [Act.put, List.getElem_toArray, List.getElem_cons_zero, List.getElem_cons_succ, List.setIfInBounds_toArray, List.set_cons_zero, List.set_cons_succ]
      refine wpAnyH_ready (rs := [1]) (by kernel_rfl) (by simp) ?_
      refine AllReadyH.cons rfl (fun K hK => ?_) AllReadyH.nil
      go_simp
      refine (nilNumber_c x HX64.out _).mono ?_
      rintro e wx ⟨v, rfl, ho, hb⟩
      obtain ⟨Ax, nx, cx, rfl, hq, _, _⟩ := ho.formN
      refine hK.out _ _ (run_string_bs ((HU.out.step HB.out).drew.step hb)) (fun hS5 => ?_)
      clear hK K
      refine heldMono (S' := (fun w' => (convert 22 9 (.slice A u c)).run Try.prog w' = .ok (.string ⟨(enc x).toArray⟩) w' ∧ (convert 22 9 (.slice Ax nx cx)).run Try.prog w' = .ok (.string ⟨(enc x).toArray⟩) w')) (fun _ h => h.1) _ _ _ _ ?_
      have hT5 : (fun w' => (convert 22 9 (.slice A u c)).run Try.prog w' = .ok (.string ⟨(enc x).toArray⟩) w' ∧ (convert 22 9 (.slice Ax nx cx)).run Try.prog w' = .ok (.string ⟨(enc x).toArray⟩) w') _ := ⟨run_string_bs ((HU.out.step HB.out).drew.step hb), run_string_bs ho.bs⟩
      try simp only [Act.put, List.getElem_toArray, List.getElem_cons_zero, List.getElem_cons_succ, List.setIfInBounds_toArray, List.set_cons_zero, List.set_cons_succ]
      refine wpAnyH_take (i := 2) (v := ?vprNum6) rfl (by kernel_rfl) (by kernel_rfl) (by kernel_rfl) (fun _ _ _ h => h) (Or.inl ⟨by rfl, ?hyprNum6⟩) (by assumption) ?restprNum6
      case hyprNum6 => (intro w hSw; (try dsimp only at hSw); go_simp; first | done | (with_reducible rfl))
      try simp only [Act.put, List.getElem_toArray, List.getElem_cons_zero, List.getElem_cons_succ, List.setIfInBounds_toArray, List.set_cons_zero, List.set_cons_succ]
      refine wpAnyH_take (i := 7) (v := ?vprNum7) rfl (by kernel_rfl) (by kernel_rfl) (by kernel_rfl) (fun _ _ _ h => h) (Or.inl ⟨by rfl, ?hyprNum7⟩) (by assumption) ?restprNum7
      case hyprNum7 => (intro w hSw; (try dsimp only at hSw); go_simp; first | done | (with_reducible rfl))
      try simp only [Act.put, List.getElem_toArray, List.getElem_cons_zero, List.getElem_cons_succ, List.setIfInBounds_toArray, List.set_cons_zero, List.set_cons_succ]
      refine wpAnyH_done (by kernel_rfl) ?_ _
      go_wp2_with fail
      go_meet
      case rel => exact HB.out.drew.trans (hb.mono HB.out.size)
  case rest =>
  replace HB := hide hcut
  clear hcut HR HBG HNC HLE
  go_wp2_with fail
  refine (newReader_c _ l _ (H.out.step HB.out) HLL.out).mono ?_
  rintro e w14 ⟨b, k, rfl, hr, hb, hge, hk⟩
  have HR := hide hr
  have HK : Hid (∀ j, k = some j → j < w14.heap.size) := hide fun j hj => (hk j hj).2
  have HBG : Hid (W.heap.size ≤ b) := hide (Nat.le_trans HB.out.size hge)
  replace HB := hide (HB.out.trans (hb.mono HB.out.size))
  clear hr hb hge hk
  go_wp2_with fail
  have HC := hide (rdText_c b k l 0 _ HR.out HLL.out HK.out)
  have HNC := hide (text_cases l)
  have HLE : Hid ((rText (l, 0)).1.1.length ≤ l.length) := hide (rText_len l 0)
  generalize rText (l, 0) = r1 at *
  refine HC.out.mono ?_
  rintro e w15 ⟨rfl, hr, ht⟩
  replace HR := hide hr
  replace HB := hide (Below.touch HB.out ht (by simp; exact HBG.out) HB.out.size)
  clear hr ht HC HK
  go_upto_region 13 with fail
  go_cut [50] (fun s wx => s = .bool (okB r1.1) ∧ w15 = wx)
  case first =>
    rcases HNC.out with rfl | ⟨x, t, rfl, hl⟩
    · replace HR : Hid (Rd w15 b k [] 11) := hide HR.out
      clear HNC HLE
      go_wp2_with fail
      refine (left_c b k [] 11 _ HR.out).mono ?_
      rintro e wl ⟨rfl, rfl⟩
      go_wp2_with fail
      refine (end_c b k [] 11 _ HR.out).mono ?_
      rintro e wl ⟨rfl, rfl⟩
      rw [stop_end]
      go_wp2_with fail
      go_meet
      case rel => exact ⟨rfl, rfl⟩
    · replace HR : Hid (Rd w15 b k t 0) := hide HR.out
      have HOK : Hid (okB (t, 0) = true) := hide rfl
      cases t with
      | nil =>
        clear HNC HLE hl
        go_wp2_with fail
        refine (left_c b k [] 0 _ HR.out).mono ?_
        rintro e wl ⟨rfl, rfl⟩
        go_wp2_with fail
        refine (end_c b k [] 0 _ HR.out).mono ?_
        rintro e wl ⟨rfl, rfl⟩
        rw [show rEnd (([] : List UInt8), 0) = 0 from rfl]
        go_wp2_with fail
        go_meet
        case rel => exact ⟨rfl, rfl⟩
      | cons y t' =>
        have htp : (0 : Int) < ((y :: t').length : Int) := by simp only [List.length_cons]; omega
        obtain ⟨t, ht⟩ : ∃ t, t = y :: t' := ⟨_, rfl⟩
        rw [← ht] at HR htp
        obtain ⟨tl, htl⟩ : ∃ tl, tl = t.length := ⟨_, rfl⟩
        rw [← htl] at htp
        have HTL : Hid (t.length = tl) := hide htl.symm
        clear HNC HLE hl ht htl
        go_wp2_with fail
        refine (left_c b k t 0 _ HR.out).mono ?_
        rintro e wl ⟨rfl, rfl⟩
        rw [HTL.out]
        go_wp2_with fail
        go_meet
        case rel => exact ⟨rfl, rfl⟩
  case rest =>
  obtain ⟨rfl, rfl⟩ := hcut
  go_upto_if 50 with fail
  go_cut [] (fun wx => Below W.heap.size W wx)
  case first =>
    rcases HNC.out with rfl | ⟨x, t, rfl, hl⟩
    · rw [show okB (bad 11) = false from rfl]
      go_wp2_with fail
      go_meet
      case rel => exact HB.out
    · rw [show okB (t, 0) = true from rfl]
      replace HR : Hid (Rd w15 b k t 0) := hide HR.out
      obtain ⟨u, hu⟩ : ∃ u, u = l.length - t.length := ⟨_, rfl⟩
      have htl : t.length ≤ l.length := HLE.out
      have HU : Hid (Bs W (.slice A u c) (encT ⟨x.toArray⟩)) := hide (by have := H.out.take (k := u) (by have := hn.out; omega); rw [hu, take_used hl] at this; rw [← hu] at this; exact this)
      have hut : u ≤ n := by have := hn.out; omega
      have hw : IntKind.i64.wrap ((n : Int) - (t.length : Int)) = (u : Int) := by have := hn.out; rw [IntWalk.i64_in _ (by omega)]; omega
      have hsub : (n : Int) - (t.length : Int) = (u : Int) := by have := hn.out; omega
      have huc : u ≤ c := by omega
      have HX35 := hide (text_small hl HL2.out)
      clear hu HNC HLE hl
      obtain ⟨tl, htl2⟩ : ∃ tl, tl = t.length := ⟨_, rfl⟩
      rw [← htl2] at hw hsub htl
      have HTL : Hid (t.length = tl) := hide htl2.symm
      clear htl2
      go_wp2_with fail
      refine (left_c b k t 0 _ HR.out).mono ?_
      rintro e wl ⟨rfl, rfl⟩
      rw [HTL.out]
      go_wp2_with fail
      refine wp_region_held_drew (S := (fun w' => (convert 22 9 (.slice A u c)).run Try.prog w' = .ok (.string ⟨(encT ⟨x.toArray⟩).toArray⟩) w')) (by kernel_rfl) (run_string_bs (HU.out.step HB.out).drew) (fun hS0 => ?_)
      refine wpAnyH_take (i := 0) (v := ?vprText0) rfl (by kernel_rfl) (by kernel_rfl) (by kernel_rfl) (fun _ _ _ h => h) (Or.inl ⟨by rfl, ?hyprText0⟩) (by assumption) ?restprText0
      case hyprText0 => (intro w hSw; (try dsimp only at hSw); go_simp; first | done | (with_reducible rfl))
      try simp only [Act.put, List.getElem_toArray, List.getElem_cons_zero, List.getElem_cons_succ, List.setIfInBounds_toArray, List.set_cons_zero, List.set_cons_succ]
      refine wpAnyH_take (i := 3) (v := ?vprText1) rfl (by kernel_rfl) (by kernel_rfl) (by kernel_rfl) (fun _ _ _ h => h) (Or.inl ⟨by rfl, ?hyprText1⟩) (by assumption) ?restprText1
      case hyprText1 => (intro w hSw; (try dsimp only at hSw); go_simp; first | done | (with_reducible rfl))
      try simp only [Act.put, List.getElem_toArray, List.getElem_cons_zero, List.getElem_cons_succ, List.setIfInBounds_toArray, List.set_cons_zero, List.set_cons_succ]
      refine wpAnyH_take (i := 4) (v := ?vprText2) rfl (by kernel_rfl) (by kernel_rfl) (by kernel_rfl) (fun _ _ _ h => h) (Or.inl ⟨by rfl, ?hyprText2⟩) (by assumption) ?restprText2
      case hyprText2 => (intro w hSw; (try dsimp only at hSw); go_simp; first | done | (with_reducible rfl))
      try simp only [Act.put, List.getElem_toArray, List.getElem_cons_zero, List.getElem_cons_succ, List.setIfInBounds_toArray, List.set_cons_zero, List.set_cons_succ]
      refine wpAnyH_take (i := 5) (v := ?vprText3) rfl (by kernel_rfl) (by kernel_rfl) (by kernel_rfl) (fun _ _ _ h => h) (Or.inl ⟨by rfl, ?hyprText3⟩) (by assumption) ?restprText3
      case hyprText3 => (intro w hSw; (try dsimp only at hSw); go_simp; first | done | (with_reducible rfl))
      try simp only [Act.put, List.getElem_toArray, List.getElem_cons_zero, List.getElem_cons_succ, List.setIfInBounds_toArray, List.set_cons_zero, List.set_cons_succ]
      refine wpAnyH_take (i := 6) (v := ?vprText4) rfl (by kernel_rfl) (by kernel_rfl) (by kernel_rfl) (fun _ _ _ h => h) (Or.inl ⟨by rfl, ?hyprText4⟩) (by assumption) ?restprText4
      case hyprText4 => (intro w hSw; (try dsimp only at hSw); go_simp; first | done | (with_reducible rfl))
      try simp only [Act.put, List.getElem_toArray, List.getElem_cons_zero, List.getElem_cons_succ, List.setIfInBounds_toArray, List.set_cons_zero, List.set_cons_succ]
      refine wpAnyH_ready (rs := [1]) (by kernel_rfl) (by simp) ?_
      refine AllReadyH.cons rfl (fun K hK => ?_) AllReadyH.nil
      go_simp
      refine (nilText_c ⟨x.toArray⟩ HX35.out _).mono ?_
      rintro e wx ⟨v, rfl, ho, hb⟩
      obtain ⟨Ax, nx, cx, rfl, hq, _, _⟩ := ho.formN
      refine hK.out _ _ (run_string_bs ((HU.out.step HB.out).drew.step hb)) (fun hS5 => ?_)
      clear hK K
      refine heldMono (S' := (fun w' => (convert 22 9 (.slice A u c)).run Try.prog w' = .ok (.string ⟨(encT ⟨x.toArray⟩).toArray⟩) w' ∧ (convert 22 9 (.slice Ax nx cx)).run Try.prog w' = .ok (.string ⟨(encT ⟨x.toArray⟩).toArray⟩) w')) (fun _ h => h.1) _ _ _ _ ?_
      have hT5 : (fun w' => (convert 22 9 (.slice A u c)).run Try.prog w' = .ok (.string ⟨(encT ⟨x.toArray⟩).toArray⟩) w' ∧ (convert 22 9 (.slice Ax nx cx)).run Try.prog w' = .ok (.string ⟨(encT ⟨x.toArray⟩).toArray⟩) w') _ := ⟨run_string_bs ((HU.out.step HB.out).drew.step hb), run_string_bs ho.bs⟩
      try simp only [Act.put, List.getElem_toArray, List.getElem_cons_zero, List.getElem_cons_succ, List.setIfInBounds_toArray, List.set_cons_zero, List.set_cons_succ]
      refine wpAnyH_take (i := 2) (v := ?vprText6) rfl (by kernel_rfl) (by kernel_rfl) (by kernel_rfl) (fun _ _ _ h => h) (Or.inl ⟨by rfl, ?hyprText6⟩) (by assumption) ?restprText6
      case hyprText6 => (intro w hSw; (try dsimp only at hSw); go_simp; first | done | (with_reducible rfl))
      try simp only [Act.put, List.getElem_toArray, List.getElem_cons_zero, List.getElem_cons_succ, List.setIfInBounds_toArray, List.set_cons_zero, List.set_cons_succ]
      refine wpAnyH_take (i := 7) (v := ?vprText7) rfl (by kernel_rfl) (by kernel_rfl) (by kernel_rfl) (fun _ _ _ h => h) (Or.inl ⟨by rfl, ?hyprText7⟩) (by assumption) ?restprText7
      case hyprText7 => (intro w hSw; (try dsimp only at hSw); go_simp; first | done | (with_reducible rfl))
      try simp only [Act.put, List.getElem_toArray, List.getElem_cons_zero, List.getElem_cons_succ, List.setIfInBounds_toArray, List.set_cons_zero, List.set_cons_succ]
      refine wpAnyH_done (by kernel_rfl) ?_ _
      go_wp2_with fail
      go_meet
      case rel => exact HB.out.drew.trans (hb.mono HB.out.size)
  case rest =>
  replace HB := hide hcut
  clear hcut HR HBG HNC HLE
  go_wp2_with fail
  refine (newReader_c _ l _ (H.out.step HB.out) HLL.out).mono ?_
  rintro e w16 ⟨b, k, rfl, hr, hb, hge, hk⟩
  have HR := hide hr
  have HK : Hid (∀ j, k = some j → j < w16.heap.size) := hide fun j hj => (hk j hj).2
  have HBG : Hid (W.heap.size ≤ b) := hide (Nat.le_trans HB.out.size hge)
  replace HB := hide (HB.out.trans (hb.mono HB.out.size))
  clear hr hb hge hk
  go_wp2_with fail
  have HC := hide (rdBool_c b k l 0 _ HR.out HLL.out)
  have HNC := hide (bool_cases l)
  generalize rBool (l, 0) = r1 at *
  refine HC.out.mono ?_
  rintro e w17 ⟨rfl, hr, ht⟩
  replace HR := hide hr
  replace HB := hide (Below.touch HB.out ht (by simp; exact HBG.out) HB.out.size)
  clear hr ht HC HK
  rcases HNC.out with rfl | ⟨x, t, rfl, hl⟩
  · replace HR : Hid (Rd w17 b k [] 11) := hide HR.out
    clear HNC
    go_wp2_with fail
    refine wp_region_held_drew (S := (fun w' => True)) (by kernel_rfl) (trivial) (fun hS0 => ?_)
    refine wpAnyH_take (i := 0) (v := ?vb0) rfl (by kernel_rfl) (by kernel_rfl) (by kernel_rfl) (fun _ _ _ h => h) (Or.inl ⟨by rfl, ?hyb0⟩) (by assumption) ?restb0
    case hyb0 => (intro w hSw; (try dsimp only at hSw); go_simp; first | done | (with_reducible rfl))
    try simp only [Act.put, List.getElem_toArray, List.getElem_cons_zero, List.getElem_cons_succ, List.setIfInBounds_toArray, List.set_cons_zero, List.set_cons_succ]
    refine wpAnyH_ready (rs := [1]) (by kernel_rfl) (by simp) ?_
    refine AllReadyH.cons rfl (fun K hK => ?_) AllReadyH.nil
    go_simp
    refine (left_c b k [] 11 _ HR.out.drew).mono ?_
    rintro e wb1 ⟨rfl, rfl⟩
    refine hK.out _ _ (trivial) (fun hS1 => ?_)
    clear hK K
    try simp only [Act.put, List.getElem_toArray, List.getElem_cons_zero, List.getElem_cons_succ, List.setIfInBounds_toArray, List.set_cons_zero, List.set_cons_succ]
    refine wpAnyH_take (i := 2) (v := ?vb2) rfl (by kernel_rfl) (by kernel_rfl) (by kernel_rfl) (fun _ _ _ h => h) (Or.inl ⟨by rfl, ?hyb2⟩) (by assumption) ?restb2
    case hyb2 => (intro w hSw; (try dsimp only at hSw); go_simp; first | done | (with_reducible rfl))
    try simp only [Act.put, List.getElem_toArray, List.getElem_cons_zero, List.getElem_cons_succ, List.setIfInBounds_toArray, List.set_cons_zero, List.set_cons_succ]
    refine wpAnyH_take (i := 3) (v := ?vb3) rfl (by kernel_rfl) (by kernel_rfl) (by kernel_rfl) (fun _ _ _ h => h) (Or.inl ⟨by rfl, ?hyb3⟩) (by assumption) ?restb3
    case hyb3 => (intro w hSw; (try dsimp only at hSw); go_simp; first | done | (with_reducible rfl))
    try simp only [Act.put, List.getElem_toArray, List.getElem_cons_zero, List.getElem_cons_succ, List.setIfInBounds_toArray, List.set_cons_zero, List.set_cons_succ]
    refine wpAnyH_take (i := 4) (v := ?vb4) rfl (by kernel_rfl) (by kernel_rfl) (by kernel_rfl) (fun _ _ _ h => h) (Or.inl ⟨by rfl, ?hyb4⟩) (by assumption) ?restb4
    case hyb4 => (intro w hSw; (try dsimp only at hSw); go_simp; first | done | (with_reducible rfl))
    try simp only [Act.put, List.getElem_toArray, List.getElem_cons_zero, List.getElem_cons_succ, List.setIfInBounds_toArray, List.set_cons_zero, List.set_cons_succ]
    refine wpAnyH_ready (rs := [5]) (by kernel_rfl) (by simp) ?_
    refine AllReadyH.cons rfl (fun K hK => ?_) AllReadyH.nil
    go_simp
    refine (end_c b k [] 11 _ HR.out.drew).mono ?_
    rintro e wb2 ⟨rfl, rfl⟩
    rw [stop_end]
    refine hK.out _ _ (trivial) (fun hS5 => ?_)
    clear hK K
    try simp only [Act.put, List.getElem_toArray, List.getElem_cons_zero, List.getElem_cons_succ, List.setIfInBounds_toArray, List.set_cons_zero, List.set_cons_succ]
    refine wpAnyH_take (i := 6) (v := ?vb6) rfl (by kernel_rfl) (by kernel_rfl) (by kernel_rfl) (fun _ _ _ h => h) (Or.inl ⟨by rfl, ?hyb6⟩) (by assumption) ?restb6
    case hyb6 => (intro w hSw; (try dsimp only at hSw); go_simp; first | done | (with_reducible rfl))
    try simp only [Act.put, List.getElem_toArray, List.getElem_cons_zero, List.getElem_cons_succ, List.setIfInBounds_toArray, List.set_cons_zero, List.set_cons_succ]
    refine wpAnyH_take (i := 7) (v := ?vb7) rfl (by kernel_rfl) (by kernel_rfl) (by kernel_rfl) (fun _ _ _ h => h) (Or.inl ⟨by rfl, ?hyb7⟩) (by assumption) ?restb7
    case hyb7 => (intro w hSw; (try dsimp only at hSw); go_simp; first | done | (with_reducible rfl))
    try simp only [Act.put, List.getElem_toArray, List.getElem_cons_zero, List.getElem_cons_succ, List.setIfInBounds_toArray, List.set_cons_zero, List.set_cons_succ]
    refine wpAnyH_take (i := 8) (v := ?vb8) rfl (by kernel_rfl) (by kernel_rfl) (by kernel_rfl) (fun _ _ _ h => h) (Or.inl ⟨by rfl, ?hyb8⟩) (by assumption) ?restb8
    case hyb8 => (intro w hSw; (try dsimp only at hSw); go_simp; first | done | (with_reducible rfl))
    try simp only [Act.put, List.getElem_toArray, List.getElem_cons_zero, List.getElem_cons_succ, List.setIfInBounds_toArray, List.set_cons_zero, List.set_cons_succ]
    refine wpAnyH_take (i := 9) (v := undef) rfl (by kernel_rfl) (by kernel_rfl) (by kernel_rfl) (fun _ _ _ h => h) (Or.inr ⟨by rfl, rfl⟩) (by assumption) ?restb9
    try simp only [Act.put, List.getElem_toArray, List.getElem_cons_zero, List.getElem_cons_succ, List.setIfInBounds_toArray, List.set_cons_zero, List.set_cons_succ]
    refine wpAnyH_take (i := 10) (v := undef) rfl (by kernel_rfl) (by kernel_rfl) (by kernel_rfl) (fun _ _ _ h => h) (Or.inr ⟨by rfl, rfl⟩) (by assumption) ?restb10
    try simp only [Act.put, List.getElem_toArray, List.getElem_cons_zero, List.getElem_cons_succ, List.setIfInBounds_toArray, List.set_cons_zero, List.set_cons_succ]
    refine wpAnyH_take (i := 11) (v := undef) rfl (by kernel_rfl) (by kernel_rfl) (by kernel_rfl) (fun _ _ _ h => h) (Or.inr ⟨by rfl, rfl⟩) (by assumption) ?restb11
    try simp only [Act.put, List.getElem_toArray, List.getElem_cons_zero, List.getElem_cons_succ, List.setIfInBounds_toArray, List.set_cons_zero, List.set_cons_succ]
    refine wpAnyH_take (i := 12) (v := undef) rfl (by kernel_rfl) (by kernel_rfl) (by kernel_rfl) (fun _ _ _ h => h) (Or.inr ⟨by rfl, rfl⟩) (by assumption) ?restb12
    try simp only [Act.put, List.getElem_toArray, List.getElem_cons_zero, List.getElem_cons_succ, List.setIfInBounds_toArray, List.set_cons_zero, List.set_cons_succ]
    refine wpAnyH_take (i := 13) (v := undef) rfl (by kernel_rfl) (by kernel_rfl) (by kernel_rfl) (fun _ _ _ h => h) (Or.inr ⟨by rfl, rfl⟩) (by assumption) ?restb13
    try simp only [Act.put, List.getElem_toArray, List.getElem_cons_zero, List.getElem_cons_succ, List.setIfInBounds_toArray, List.set_cons_zero, List.set_cons_succ]
    refine wpAnyH_take (i := 14) (v := undef) rfl (by kernel_rfl) (by kernel_rfl) (by kernel_rfl) (fun _ _ _ h => h) (Or.inr ⟨by rfl, rfl⟩) (by assumption) ?restb14
    try simp only [Act.put, List.getElem_toArray, List.getElem_cons_zero, List.getElem_cons_succ, List.setIfInBounds_toArray, List.set_cons_zero, List.set_cons_succ]
    refine wpAnyH_take (i := 15) (v := undef) rfl (by kernel_rfl) (by kernel_rfl) (by kernel_rfl) (fun _ _ _ h => h) (Or.inr ⟨by rfl, rfl⟩) (by assumption) ?restb15
    try simp only [Act.put, List.getElem_toArray, List.getElem_cons_zero, List.getElem_cons_succ, List.setIfInBounds_toArray, List.set_cons_zero, List.set_cons_succ]
    refine wpAnyH_take (i := 16) (v := undef) rfl (by kernel_rfl) (by kernel_rfl) (by kernel_rfl) (fun _ _ _ h => h) (Or.inr ⟨by rfl, rfl⟩) (by assumption) ?restb16
    try simp only [Act.put, List.getElem_toArray, List.getElem_cons_zero, List.getElem_cons_succ, List.setIfInBounds_toArray, List.set_cons_zero, List.set_cons_succ]
    refine wpAnyH_take (i := 17) (v := undef) rfl (by kernel_rfl) (by kernel_rfl) (by kernel_rfl) (fun _ _ _ h => h) (Or.inr ⟨by rfl, rfl⟩) (by assumption) ?restb17
    try simp only [Act.put, List.getElem_toArray, List.getElem_cons_zero, List.getElem_cons_succ, List.setIfInBounds_toArray, List.set_cons_zero, List.set_cons_succ]
    refine wpAnyH_take (i := 18) (v := undef) rfl (by kernel_rfl) (by kernel_rfl) (by kernel_rfl) (fun _ _ _ h => h) (Or.inr ⟨by rfl, rfl⟩) (by assumption) ?restb18
    try simp only [Act.put, List.getElem_toArray, List.getElem_cons_zero, List.getElem_cons_succ, List.setIfInBounds_toArray, List.set_cons_zero, List.set_cons_succ]
    refine wpAnyH_take (i := 19) (v := undef) rfl (by kernel_rfl) (by kernel_rfl) (by kernel_rfl) (fun _ _ _ h => h) (Or.inr ⟨by rfl, rfl⟩) (by assumption) ?restb19
    try simp only [Act.put, List.getElem_toArray, List.getElem_cons_zero, List.getElem_cons_succ, List.setIfInBounds_toArray, List.set_cons_zero, List.set_cons_succ]
    refine wpAnyH_take (i := 20) (v := undef) rfl (by kernel_rfl) (by kernel_rfl) (by kernel_rfl) (fun _ _ _ h => h) (Or.inr ⟨by rfl, rfl⟩) (by assumption) ?restb20
    try simp only [Act.put, List.getElem_toArray, List.getElem_cons_zero, List.getElem_cons_succ, List.setIfInBounds_toArray, List.set_cons_zero, List.set_cons_succ]
    refine wpAnyH_take (i := 21) (v := ?vb21) rfl (by kernel_rfl) (by kernel_rfl) (by kernel_rfl) (fun _ _ _ h => h) (Or.inl ⟨by rfl, ?hyb21⟩) (by assumption) ?restb21
    case hyb21 => (intro w hSw; (try dsimp only at hSw); go_simp; first | done | (with_reducible rfl))
    try simp only [Act.put, List.getElem_toArray, List.getElem_cons_zero, List.getElem_cons_succ, List.setIfInBounds_toArray, List.set_cons_zero, List.set_cons_succ]
    refine wpAnyH_take (i := 22) (v := ?vb22) rfl (by kernel_rfl) (by kernel_rfl) (by kernel_rfl) (fun _ _ _ h => h) (Or.inl ⟨by rfl, ?hyb22⟩) (by assumption) ?restb22
    case hyb22 => (intro w hSw; (try dsimp only at hSw); go_simp; first | done | (with_reducible rfl))
    try simp only [Act.put, List.getElem_toArray, List.getElem_cons_zero, List.getElem_cons_succ, List.setIfInBounds_toArray, List.set_cons_zero, List.set_cons_succ]
    refine wpAnyH_done (by kernel_rfl) ?_ _
    go_wp2_with fail
    go_ret
    exact ⟨rfl, HB.out.drew⟩
  · replace HR : Hid (Rd w17 b k t 0) := hide HR.out
    have hut : n = t.length + 1 := by have h1 := congrArg List.length hl; have h2 := hn.out; simp at h1; omega
    have HU : Hid (Bs W (.slice A 1 c) [bb x]) := hide (by have := H.out.take (k := 1) (by omega); rw [← hl] at this; simpa using this)
    have hc1 : 1 ≤ c := by omega
    have hc1i : (1 : Int) ≤ (c : Int) := by omega
    have hw1 : IntKind.i64.wrap 1 = 1 := rfl
    cases t with
    | nil =>
      obtain rfl : n = 1 := hut
      have hw : IntKind.i64.wrap (1 - 0) = 1 := rfl
      clear HNC hl
      go_wp2_with fail
      refine wp_region_held_drew (S := (fun w' => (convert 22 9 (.slice A 1 c)).run Try.prog w' = .ok (.string ⟨([bb x]).toArray⟩) w')) (by kernel_rfl) (run_string_bs (HU.out.step HB.out).drew) (fun hS0 => ?_)
      refine wpAnyH_take (i := 0) (v := ?vge0) rfl (by kernel_rfl) (by kernel_rfl) (by kernel_rfl) (fun _ _ _ h => h) (Or.inl ⟨by rfl, ?hyge0⟩) (by assumption) ?restge0
      case hyge0 => (intro w hSw; (try dsimp only at hSw); go_simp; first | done | (with_reducible rfl))
      try simp only [Act.put, List.getElem_toArray, List.getElem_cons_zero, List.getElem_cons_succ, List.setIfInBounds_toArray, List.set_cons_zero, List.set_cons_succ]
      refine wpAnyH_ready (rs := [1]) (by kernel_rfl) (by simp) ?_
      refine AllReadyH.cons rfl (fun K hK => ?_) AllReadyH.nil
      go_simp
      refine (left_c b k [] 0 _ HR.out.drew).mono ?_
      rintro e wb1 ⟨rfl, rfl⟩
      refine hK.out _ _ (run_string_bs (HU.out.step HB.out).drew) (fun hS1 => ?_)
      clear hK K
      try simp only [Act.put, List.getElem_toArray, List.getElem_cons_zero, List.getElem_cons_succ, List.setIfInBounds_toArray, List.set_cons_zero, List.set_cons_succ]
      refine wpAnyH_take (i := 2) (v := ?vge2) rfl (by kernel_rfl) (by kernel_rfl) (by kernel_rfl) (fun _ _ _ h => h) (Or.inl ⟨by rfl, ?hyge2⟩) (by assumption) ?restge2
      case hyge2 => (intro w hSw; (try dsimp only at hSw); go_simp; first | done | (with_reducible rfl))
      try simp only [Act.put, List.getElem_toArray, List.getElem_cons_zero, List.getElem_cons_succ, List.setIfInBounds_toArray, List.set_cons_zero, List.set_cons_succ]
      refine wpAnyH_take (i := 3) (v := ?vge3) rfl (by kernel_rfl) (by kernel_rfl) (by kernel_rfl) (fun _ _ _ h => h) (Or.inl ⟨by rfl, ?hyge3⟩) (by assumption) ?restge3
      case hyge3 => (intro w hSw; (try dsimp only at hSw); go_simp; first | done | (with_reducible rfl))
      try simp only [Act.put, List.getElem_toArray, List.getElem_cons_zero, List.getElem_cons_succ, List.setIfInBounds_toArray, List.set_cons_zero, List.set_cons_succ]
      refine wpAnyH_take (i := 4) (v := ?vge4) rfl (by kernel_rfl) (by kernel_rfl) (by kernel_rfl) (fun _ _ _ h => h) (Or.inl ⟨by rfl, ?hyge4⟩) (by assumption) ?restge4
      case hyge4 => (intro w hSw; (try dsimp only at hSw); go_simp; first | done | (with_reducible rfl))
      try simp only [Act.put, List.getElem_toArray, List.getElem_cons_zero, List.getElem_cons_succ, List.setIfInBounds_toArray, List.set_cons_zero, List.set_cons_succ]
      refine wpAnyH_ready (rs := [5]) (by kernel_rfl) (by simp) ?_
      refine AllReadyH.cons rfl (fun K hK => ?_) AllReadyH.nil
      go_simp
      refine (end_c b k [] 0 _ HR.out.drew).mono ?_
      rintro e wb2 ⟨rfl, rfl⟩
      rw [show rEnd (([] : List UInt8), 0) = 0 from rfl]
      refine hK.out _ _ (run_string_bs (HU.out.step HB.out).drew) (fun hS5 => ?_)
      clear hK K
      try simp only [Act.put, List.getElem_toArray, List.getElem_cons_zero, List.getElem_cons_succ, List.setIfInBounds_toArray, List.set_cons_zero, List.set_cons_succ]
      refine wpAnyH_take (i := 6) (v := ?vge6) rfl (by kernel_rfl) (by kernel_rfl) (by kernel_rfl) (fun _ _ _ h => h) (Or.inl ⟨by rfl, ?hyge6⟩) (by assumption) ?restge6
      case hyge6 => (intro w hSw; (try dsimp only at hSw); go_simp; first | done | (with_reducible rfl))
      try simp only [Act.put, List.getElem_toArray, List.getElem_cons_zero, List.getElem_cons_succ, List.setIfInBounds_toArray, List.set_cons_zero, List.set_cons_succ]
      refine wpAnyH_take (i := 7) (v := ?vge7) rfl (by kernel_rfl) (by kernel_rfl) (by kernel_rfl) (fun _ _ _ h => h) (Or.inl ⟨by rfl, ?hyge7⟩) (by assumption) ?restge7
      case hyge7 => (intro w hSw; (try dsimp only at hSw); go_simp; first | done | (with_reducible rfl))
      try simp only [Act.put, List.getElem_toArray, List.getElem_cons_zero, List.getElem_cons_succ, List.setIfInBounds_toArray, List.set_cons_zero, List.set_cons_succ]
      refine wpAnyH_take (i := 8) (v := ?vge8) rfl (by kernel_rfl) (by kernel_rfl) (by kernel_rfl) (fun _ _ _ h => h) (Or.inl ⟨by rfl, ?hyge8⟩) (by assumption) ?restge8
      case hyge8 => (intro w hSw; (try dsimp only at hSw); go_simp; first | done | (with_reducible rfl))
      try simp only [Act.put, List.getElem_toArray, List.getElem_cons_zero, List.getElem_cons_succ, List.setIfInBounds_toArray, List.set_cons_zero, List.set_cons_succ]
      refine wpAnyH_take (i := 9) (v := ?vge9) rfl (by kernel_rfl) (by kernel_rfl) (by kernel_rfl) (fun _ _ _ h => h) (Or.inl ⟨by rfl, ?hyge9⟩) (by assumption) ?restge9
      case hyge9 => (intro w hSw; (try dsimp only at hSw); go_simp; first | done | (with_reducible rfl))
      try simp only [Act.put, List.getElem_toArray, List.getElem_cons_zero, List.getElem_cons_succ, List.setIfInBounds_toArray, List.set_cons_zero, List.set_cons_succ]
      refine wpAnyH_take (i := 12) (v := ?vge10) rfl (by kernel_rfl) (by kernel_rfl) (by kernel_rfl) (fun _ _ _ h => h) (Or.inl ⟨by rfl, ?hyge10⟩) (by assumption) ?restge10
      case hyge10 => (intro w hSw; (try dsimp only at hSw); go_simp; first | done | (with_reducible rfl))
      try simp only [Act.put, List.getElem_toArray, List.getElem_cons_zero, List.getElem_cons_succ, List.setIfInBounds_toArray, List.set_cons_zero, List.set_cons_succ]
      refine wpAnyH_take (i := 13) (v := ?vge11) rfl (by kernel_rfl) (by kernel_rfl) (by kernel_rfl) (fun _ _ _ h => h) (Or.inl ⟨by rfl, ?hyge11⟩) (by assumption) ?restge11
      case hyge11 => (intro w hSw; (try dsimp only at hSw); go_simp; first | done | (with_reducible rfl))
      try simp only [Act.put, List.getElem_toArray, List.getElem_cons_zero, List.getElem_cons_succ, List.setIfInBounds_toArray, List.set_cons_zero, List.set_cons_succ]
      refine wpAnyH_take (i := 14) (v := ?vge12) rfl (by kernel_rfl) (by kernel_rfl) (by kernel_rfl) (fun _ _ _ h => h) (Or.inl ⟨by rfl, ?hyge12⟩) (by assumption) ?restge12
      case hyge12 => (intro w hSw; (try dsimp only at hSw); go_simp; first | done | (with_reducible rfl))
      try simp only [Act.put, List.getElem_toArray, List.getElem_cons_zero, List.getElem_cons_succ, List.setIfInBounds_toArray, List.set_cons_zero, List.set_cons_succ]
      refine wpAnyH_take (i := 15) (v := ?vge13) rfl (by kernel_rfl) (by kernel_rfl) (by kernel_rfl) (fun _ _ _ h => h) (Or.inl ⟨by rfl, ?hyge13⟩) (by assumption) ?restge13
      case hyge13 => (intro w hSw; (try dsimp only at hSw); go_simp; first | done | (with_reducible rfl))
      try simp only [Act.put, List.getElem_toArray, List.getElem_cons_zero, List.getElem_cons_succ, List.setIfInBounds_toArray, List.set_cons_zero, List.set_cons_succ]
      refine wpAnyH_ready (rs := [10]) (by kernel_rfl) (by simp) ?_
      refine AllReadyH.cons rfl (fun K hK => ?_) AllReadyH.nil
      go_simp
      refine (nilBool_c x _).mono ?_
      rintro e wb3 ⟨v, rfl, ho, hb⟩
      obtain ⟨Ax, nx, cx, rfl, hq, _, _⟩ := ho.formN
      refine hK.out _ _ (run_string_bs ((HU.out.step HB.out).drew.step hb)) (fun hS14 => ?_)
      clear hK K
      refine heldMono (S' := (fun w' => (convert 22 9 (.slice A 1 c)).run Try.prog w' = .ok (.string ⟨([bb x]).toArray⟩) w' ∧ (convert 22 9 (.slice Ax nx cx)).run Try.prog w' = .ok (.string ⟨([bb x]).toArray⟩) w')) (fun _ h => h.1) _ _ _ _ ?_
      have hT14 : (fun w' => (convert 22 9 (.slice A 1 c)).run Try.prog w' = .ok (.string ⟨([bb x]).toArray⟩) w' ∧ (convert 22 9 (.slice Ax nx cx)).run Try.prog w' = .ok (.string ⟨([bb x]).toArray⟩) w') _ := ⟨run_string_bs ((HU.out.step HB.out).drew.step hb), run_string_bs ho.bs⟩
      try simp only [Act.put, List.getElem_toArray, List.getElem_cons_zero, List.getElem_cons_succ, List.setIfInBounds_toArray, List.set_cons_zero, List.set_cons_succ]
      refine wpAnyH_take (i := 11) (v := ?vge15) rfl (by kernel_rfl) (by kernel_rfl) (by kernel_rfl) (fun _ _ _ h => h) (Or.inl ⟨by rfl, ?hyge15⟩) (by assumption) ?restge15
      case hyge15 => (intro w hSw; (try dsimp only at hSw); go_simp; first | done | (with_reducible rfl))
      try simp only [Act.put, List.getElem_toArray, List.getElem_cons_zero, List.getElem_cons_succ, List.setIfInBounds_toArray, List.set_cons_zero, List.set_cons_succ]
      refine wpAnyH_ready (rs := [16]) (by kernel_rfl) (by simp) ?_
      refine AllReadyH.cons rfl (fun K hK => ?_) AllReadyH.nil
      go_simp
      refine (left_c b k [] 0 _ (Rd.step HR.out.drew hb)).mono ?_
      rintro e wb4 ⟨rfl, rfl⟩
      refine hK.out _ _ (⟨run_string_bs ((HU.out.step HB.out).drew.step hb), run_string_bs ho.bs⟩) (fun hS16 => ?_)
      clear hK K
      try simp only [Act.put, List.getElem_toArray, List.getElem_cons_zero, List.getElem_cons_succ, List.setIfInBounds_toArray, List.set_cons_zero, List.set_cons_succ]
      refine wpAnyH_take (i := 17) (v := ?vge17) rfl (by kernel_rfl) (by kernel_rfl) (by kernel_rfl) (fun _ _ _ h => h) (Or.inl ⟨by rfl, ?hyge17⟩) (by assumption) ?restge17
      case hyge17 => (intro w hSw; (try dsimp only at hSw); go_simp; first | done | (with_reducible rfl))
      try simp only [Act.put, List.getElem_toArray, List.getElem_cons_zero, List.getElem_cons_succ, List.setIfInBounds_toArray, List.set_cons_zero, List.set_cons_succ]
      refine wpAnyH_take (i := 18) (v := ?vge18) rfl (by kernel_rfl) (by kernel_rfl) (by kernel_rfl) (fun _ _ _ h => h) (Or.inl ⟨by rfl, ?hyge18⟩) (by assumption) ?restge18
      case hyge18 => (intro w hSw; (try dsimp only at hSw); go_simp; first | done | (with_reducible rfl))
      try simp only [Act.put, List.getElem_toArray, List.getElem_cons_zero, List.getElem_cons_succ, List.setIfInBounds_toArray, List.set_cons_zero, List.set_cons_succ]
      refine wpAnyH_take (i := 19) (v := ?vge19) rfl (by kernel_rfl) (by kernel_rfl) (by kernel_rfl) (fun _ _ _ h => h) (Or.inl ⟨by rfl, ?hyge19⟩) (by assumption) ?restge19
      case hyge19 => (intro w hSw; (try dsimp only at hSw); go_simp; first | done | (with_reducible rfl))
      try simp only [Act.put, List.getElem_toArray, List.getElem_cons_zero, List.getElem_cons_succ, List.setIfInBounds_toArray, List.set_cons_zero, List.set_cons_succ]
      refine wpAnyH_take (i := 20) (v := ?vge20) rfl (by kernel_rfl) (by kernel_rfl) (by kernel_rfl) (fun _ _ _ h => h) (Or.inl ⟨by rfl, ?hyge20⟩) (by assumption) ?restge20
      case hyge20 => (intro w hSw; (try dsimp only at hSw); go_simp; first | done | (with_reducible rfl))
      try simp only [Act.put, List.getElem_toArray, List.getElem_cons_zero, List.getElem_cons_succ, List.setIfInBounds_toArray, List.set_cons_zero, List.set_cons_succ]
      refine wpAnyH_take (i := 21) (v := ?vge21) rfl (by kernel_rfl) (by kernel_rfl) (by kernel_rfl) (fun _ _ _ h => h) (Or.inl ⟨by rfl, ?hyge21⟩) (by assumption) ?restge21
      case hyge21 => (intro w hSw; (try dsimp only at hSw); go_simp; first | done | (with_reducible rfl))
      try simp only [Act.put, List.getElem_toArray, List.getElem_cons_zero, List.getElem_cons_succ, List.setIfInBounds_toArray, List.set_cons_zero, List.set_cons_succ]
      refine wpAnyH_take (i := 22) (v := ?vge22) rfl (by kernel_rfl) (by kernel_rfl) (by kernel_rfl) (fun _ _ _ h => h) (Or.inl ⟨by rfl, ?hyge22⟩) (by assumption) ?restge22
      case hyge22 => (intro w hSw; (try dsimp only at hSw); go_simp; first | done | (with_reducible rfl))
      try simp only [Act.put, List.getElem_toArray, List.getElem_cons_zero, List.getElem_cons_succ, List.setIfInBounds_toArray, List.set_cons_zero, List.set_cons_succ]
      refine wpAnyH_done (by kernel_rfl) ?_ _
      go_wp2_with fail
      go_ret
      exact ⟨rfl, HB.out.drew.trans (hb.mono HB.out.size)⟩
    | cons y t' =>
      obtain ⟨t, ht⟩ : ∃ t, t = y :: t' := ⟨_, rfl⟩
      rw [← ht] at HR hut
      obtain ⟨tl, htl⟩ : ∃ tl, tl = t.length := ⟨_, rfl⟩
      have htp : 0 < tl := by rw [htl, ht]; simp
      rw [← htl] at hut
      have htz : ((tl : Int) == 0) = false := by simp; omega
      have hw : IntKind.i64.wrap ((n : Int) - (tl : Int)) = 1 := by rw [IntWalk.i64_in _ (by omega)]; omega
      have hsb : (n : Int) - (tl : Int) = 1 := by omega
      have HTL : Hid (t.length = tl) := hide htl.symm
      clear HNC hl ht htl
      have hut2 : Hid (n = tl + 1) := hut
      clear hut
      go_wp2_with fail
      refine wp_region_held_drew (S := (fun w' => (convert 22 9 (.slice A 1 c)).run Try.prog w' = .ok (.string ⟨([bb x]).toArray⟩) w')) (by kernel_rfl) (run_string_bs (HU.out.step HB.out).drew) (fun hS0 => ?_)
      refine wpAnyH_take (i := 0) (v := ?vgf0) rfl (by kernel_rfl) (by kernel_rfl) (by kernel_rfl) (fun _ _ _ h => h) (Or.inl ⟨by rfl, ?hygf0⟩) (by assumption) ?restgf0
      case hygf0 => (intro w hSw; (try dsimp only at hSw); go_simp; first | done | (with_reducible rfl))
      try simp only [Act.put, List.getElem_toArray, List.getElem_cons_zero, List.getElem_cons_succ, List.setIfInBounds_toArray, List.set_cons_zero, List.set_cons_succ]
      refine wpAnyH_ready (rs := [1]) (by kernel_rfl) (by simp) ?_
      refine AllReadyH.cons rfl (fun K hK => ?_) AllReadyH.nil
      go_simp
      refine (left_c b k t 0 _ HR.out.drew).mono ?_
      rintro e wb1 ⟨rfl, rfl⟩
      rw [HTL.out]
      refine hK.out _ _ (run_string_bs (HU.out.step HB.out).drew) (fun hS1 => ?_)
      clear hK K
      try simp only [Act.put, List.getElem_toArray, List.getElem_cons_zero, List.getElem_cons_succ, List.setIfInBounds_toArray, List.set_cons_zero, List.set_cons_succ]
      refine wpAnyH_take (i := 2) (v := ?vgf2) rfl (by kernel_rfl) (by kernel_rfl) (by kernel_rfl) (fun _ _ _ h => h) (Or.inl ⟨by rfl, ?hygf2⟩) (by assumption) ?restgf2
      case hygf2 => (intro w hSw; (try dsimp only at hSw); go_simp; first | done | (with_reducible rfl))
      try simp only [Act.put, List.getElem_toArray, List.getElem_cons_zero, List.getElem_cons_succ, List.setIfInBounds_toArray, List.set_cons_zero, List.set_cons_succ]
      refine wpAnyH_take (i := 3) (v := ?vgf3) rfl (by kernel_rfl) (by kernel_rfl) (by kernel_rfl) (fun _ _ _ h => h) (Or.inl ⟨by rfl, ?hygf3⟩) (by assumption) ?restgf3
      case hygf3 => (intro w hSw; (try dsimp only at hSw); go_simp; first | done | (with_reducible rfl))
      try simp only [Act.put, List.getElem_toArray, List.getElem_cons_zero, List.getElem_cons_succ, List.setIfInBounds_toArray, List.set_cons_zero, List.set_cons_succ]
      refine wpAnyH_take (i := 4) (v := undef) rfl (by kernel_rfl) (by kernel_rfl) (by kernel_rfl) (fun _ _ _ h => h) (Or.inr ⟨by rfl, rfl⟩) (by assumption) ?restgf4
      try simp only [Act.put, List.getElem_toArray, List.getElem_cons_zero, List.getElem_cons_succ, List.setIfInBounds_toArray, List.set_cons_zero, List.set_cons_succ]
      refine wpAnyH_take (i := 5) (v := undef) rfl (by kernel_rfl) (by kernel_rfl) (by kernel_rfl) (fun _ _ _ h => h) (Or.inr ⟨by rfl, rfl⟩) (by assumption) ?restgf5
      try simp only [Act.put, List.getElem_toArray, List.getElem_cons_zero, List.getElem_cons_succ, List.setIfInBounds_toArray, List.set_cons_zero, List.set_cons_succ]
      refine wpAnyH_take (i := 6) (v := undef) rfl (by kernel_rfl) (by kernel_rfl) (by kernel_rfl) (fun _ _ _ h => h) (Or.inr ⟨by rfl, rfl⟩) (by assumption) ?restgf6
      try simp only [Act.put, List.getElem_toArray, List.getElem_cons_zero, List.getElem_cons_succ, List.setIfInBounds_toArray, List.set_cons_zero, List.set_cons_succ]
      refine wpAnyH_take (i := 7) (v := ?vgf7) rfl (by kernel_rfl) (by kernel_rfl) (by kernel_rfl) (fun _ _ _ h => h) (Or.inl ⟨by rfl, ?hygf7⟩) (by assumption) ?restgf7
      case hygf7 => (intro w hSw; (try dsimp only at hSw); go_simp; first | done | (with_reducible rfl))
      try simp only [Act.put, List.getElem_toArray, List.getElem_cons_zero, List.getElem_cons_succ, List.setIfInBounds_toArray, List.set_cons_zero, List.set_cons_succ]
      refine wpAnyH_take (i := 8) (v := ?vgf8) rfl (by kernel_rfl) (by kernel_rfl) (by kernel_rfl) (fun _ _ _ h => h) (Or.inl ⟨by rfl, ?hygf8⟩) (by assumption) ?restgf8
      case hygf8 => (intro w hSw; (try dsimp only at hSw); go_simp; first | done | (with_reducible rfl))
      try simp only [Act.put, List.getElem_toArray, List.getElem_cons_zero, List.getElem_cons_succ, List.setIfInBounds_toArray, List.set_cons_zero, List.set_cons_succ]
      refine wpAnyH_take (i := 9) (v := ?vgf9) rfl (by kernel_rfl) (by kernel_rfl) (by kernel_rfl) (fun _ _ _ h => h) (Or.inl ⟨by rfl, ?hygf9⟩) (by assumption) ?restgf9
      case hygf9 => (intro w hSw; (try dsimp only at hSw); go_simp; first | done | (with_reducible rfl))
      try simp only [Act.put, List.getElem_toArray, List.getElem_cons_zero, List.getElem_cons_succ, List.setIfInBounds_toArray, List.set_cons_zero, List.set_cons_succ]
      refine wpAnyH_take (i := 12) (v := ?vgf10) rfl (by kernel_rfl) (by kernel_rfl) (by kernel_rfl) (fun _ _ _ h => h) (Or.inl ⟨by rfl, ?hygf10⟩) (by assumption) ?restgf10
      case hygf10 => (intro w hSw; (try dsimp only at hSw); go_simp; first | done | (with_reducible rfl))
      try simp only [Act.put, List.getElem_toArray, List.getElem_cons_zero, List.getElem_cons_succ, List.setIfInBounds_toArray, List.set_cons_zero, List.set_cons_succ]
      refine wpAnyH_take (i := 13) (v := ?vgf11) rfl (by kernel_rfl) (by kernel_rfl) (by kernel_rfl) (fun _ _ _ h => h) (Or.inl ⟨by rfl, ?hygf11⟩) (by assumption) ?restgf11
      case hygf11 => (intro w hSw; (try dsimp only at hSw); go_simp; first | done | (with_reducible rfl))
      try simp only [Act.put, List.getElem_toArray, List.getElem_cons_zero, List.getElem_cons_succ, List.setIfInBounds_toArray, List.set_cons_zero, List.set_cons_succ]
      refine wpAnyH_take (i := 14) (v := ?vgf12) rfl (by kernel_rfl) (by kernel_rfl) (by kernel_rfl) (fun _ _ _ h => h) (Or.inl ⟨by rfl, ?hygf12⟩) (by assumption) ?restgf12
      case hygf12 => (intro w hSw; (try dsimp only at hSw); go_simp; first | done | (with_reducible rfl))
      try simp only [Act.put, List.getElem_toArray, List.getElem_cons_zero, List.getElem_cons_succ, List.setIfInBounds_toArray, List.set_cons_zero, List.set_cons_succ]
      refine wpAnyH_take (i := 15) (v := ?vgf13) rfl (by kernel_rfl) (by kernel_rfl) (by kernel_rfl) (fun _ _ _ h => h) (Or.inl ⟨by rfl, ?hygf13⟩) (by assumption) ?restgf13
      case hygf13 => (intro w hSw; (try dsimp only at hSw); go_simp; first | done | (with_reducible rfl))
      try simp only [Act.put, List.getElem_toArray, List.getElem_cons_zero, List.getElem_cons_succ, List.setIfInBounds_toArray, List.set_cons_zero, List.set_cons_succ]
      refine wpAnyH_ready (rs := [10]) (by kernel_rfl) (by simp) ?_
      refine AllReadyH.cons rfl (fun K hK => ?_) AllReadyH.nil
      go_simp
      refine (nilBool_c x _).mono ?_
      rintro e wb3 ⟨v, rfl, ho, hb⟩
      obtain ⟨Ax, nx, cx, rfl, hq, _, _⟩ := ho.formN
      refine hK.out _ _ (run_string_bs ((HU.out.step HB.out).drew.step hb)) (fun hS14 => ?_)
      clear hK K
      refine heldMono (S' := (fun w' => (convert 22 9 (.slice A 1 c)).run Try.prog w' = .ok (.string ⟨([bb x]).toArray⟩) w' ∧ (convert 22 9 (.slice Ax nx cx)).run Try.prog w' = .ok (.string ⟨([bb x]).toArray⟩) w')) (fun _ h => h.1) _ _ _ _ ?_
      have hT14 : (fun w' => (convert 22 9 (.slice A 1 c)).run Try.prog w' = .ok (.string ⟨([bb x]).toArray⟩) w' ∧ (convert 22 9 (.slice Ax nx cx)).run Try.prog w' = .ok (.string ⟨([bb x]).toArray⟩) w') _ := ⟨run_string_bs ((HU.out.step HB.out).drew.step hb), run_string_bs ho.bs⟩
      try simp only [Act.put, List.getElem_toArray, List.getElem_cons_zero, List.getElem_cons_succ, List.setIfInBounds_toArray, List.set_cons_zero, List.set_cons_succ]
      refine wpAnyH_take (i := 11) (v := ?vgf15) rfl (by kernel_rfl) (by kernel_rfl) (by kernel_rfl) (fun _ _ _ h => h) (Or.inl ⟨by rfl, ?hygf15⟩) (by assumption) ?restgf15
      case hygf15 => (intro w hSw; (try dsimp only at hSw); go_simp; first | done | (with_reducible rfl))
      try simp only [Act.put, List.getElem_toArray, List.getElem_cons_zero, List.getElem_cons_succ, List.setIfInBounds_toArray, List.set_cons_zero, List.set_cons_succ]
      refine wpAnyH_ready (rs := [16]) (by kernel_rfl) (by simp) ?_
      refine AllReadyH.cons rfl (fun K hK => ?_) AllReadyH.nil
      go_simp
      refine (left_c b k t 0 _ (Rd.step HR.out.drew hb)).mono ?_
      rintro e wb4 ⟨rfl, rfl⟩
      rw [HTL.out]
      refine hK.out _ _ (⟨run_string_bs ((HU.out.step HB.out).drew.step hb), run_string_bs ho.bs⟩) (fun hS16 => ?_)
      clear hK K
      try simp only [Act.put, List.getElem_toArray, List.getElem_cons_zero, List.getElem_cons_succ, List.setIfInBounds_toArray, List.set_cons_zero, List.set_cons_succ]
      refine wpAnyH_take (i := 17) (v := ?vgf17) rfl (by kernel_rfl) (by kernel_rfl) (by kernel_rfl) (fun _ _ _ h => h) (Or.inl ⟨by rfl, ?hygf17⟩) (by assumption) ?restgf17
      case hygf17 => (intro w hSw; (try dsimp only at hSw); go_simp; first | done | (with_reducible rfl))
      try simp only [Act.put, List.getElem_toArray, List.getElem_cons_zero, List.getElem_cons_succ, List.setIfInBounds_toArray, List.set_cons_zero, List.set_cons_succ]
      refine wpAnyH_take (i := 18) (v := ?vgf18) rfl (by kernel_rfl) (by kernel_rfl) (by kernel_rfl) (fun _ _ _ h => h) (Or.inl ⟨by rfl, ?hygf18⟩) (by assumption) ?restgf18
      case hygf18 => (intro w hSw; (try dsimp only at hSw); go_simp; first | done | (with_reducible rfl))
      try simp only [Act.put, List.getElem_toArray, List.getElem_cons_zero, List.getElem_cons_succ, List.setIfInBounds_toArray, List.set_cons_zero, List.set_cons_succ]
      refine wpAnyH_take (i := 19) (v := ?vgf19) rfl (by kernel_rfl) (by kernel_rfl) (by kernel_rfl) (fun _ _ _ h => h) (Or.inl ⟨by rfl, ?hygf19⟩) (by assumption) ?restgf19
      case hygf19 => (intro w hSw; (try dsimp only at hSw); go_simp; first | done | (with_reducible rfl))
      try simp only [Act.put, List.getElem_toArray, List.getElem_cons_zero, List.getElem_cons_succ, List.setIfInBounds_toArray, List.set_cons_zero, List.set_cons_succ]
      refine wpAnyH_take (i := 20) (v := ?vgf20) rfl (by kernel_rfl) (by kernel_rfl) (by kernel_rfl) (fun _ _ _ h => h) (Or.inl ⟨by rfl, ?hygf20⟩) (by assumption) ?restgf20
      case hygf20 => (intro w hSw; (try dsimp only at hSw); go_simp; first | done | (with_reducible rfl))
      try simp only [Act.put, List.getElem_toArray, List.getElem_cons_zero, List.getElem_cons_succ, List.setIfInBounds_toArray, List.set_cons_zero, List.set_cons_succ]
      refine wpAnyH_take (i := 21) (v := ?vgf21) rfl (by kernel_rfl) (by kernel_rfl) (by kernel_rfl) (fun _ _ _ h => h) (Or.inl ⟨by rfl, ?hygf21⟩) (by assumption) ?restgf21
      case hygf21 => (intro w hSw; (try dsimp only at hSw); go_simp; first | done | (with_reducible rfl))
      try simp only [Act.put, List.getElem_toArray, List.getElem_cons_zero, List.getElem_cons_succ, List.setIfInBounds_toArray, List.set_cons_zero, List.set_cons_succ]
      refine wpAnyH_take (i := 22) (v := ?vgf22) rfl (by kernel_rfl) (by kernel_rfl) (by kernel_rfl) (fun _ _ _ h => h) (Or.inl ⟨by rfl, ?hygf22⟩) (by assumption) ?restgf22
      case hygf22 => (intro w hSw; (try dsimp only at hSw); go_simp; first | done | (with_reducible rfl))
      try simp only [Act.put, List.getElem_toArray, List.getElem_cons_zero, List.getElem_cons_succ, List.setIfInBounds_toArray, List.set_cons_zero, List.set_cons_succ]
      refine wpAnyH_done (by kernel_rfl) ?_ _
      go_wp2_with fail
      go_ret
      exact ⟨rfl, HB.out.drew.trans (hb.mono HB.out.size)⟩
end Go.Proofs.Ytobcomognkokmaa
