/- The reference's New, Contents; the law's contents. -/
import Derived.Test.YtlpnichgfhgdmaaRef5
namespace Go.Proofs.Ytlpnichgfhgdmaa
open Go.ChangeShapes Go.WideShapes Go.ChangeAt Go.RowKit
set_option linter.unusedVariables false
set_option linter.unusedSimpArgs false

/-- The contents of the first k pages, one behind the other. -/
def catTo (D : DS) (k : Nat) : List UInt8 := ((List.range k).map (content D)).flatten
def dContents (D : DS) : List UInt8 := catTo D D.pages.length
theorem catTo_succ (D : DS) (k : Nat) : catTo D (k + 1) = catTo D k ++ content D k := by unfold catTo; rw [List.range_succ]; simp
theorem content_len {D : DS} (h : D.Ok) (i : Nat) (hi : i < D.pages.length) : (content D i).length = 128 := by
  have key : ∀ k, k ≤ D.pend.length → (lastP D i k).length = 128 := by
    intro k hk
    induction k with
    | zero => rw [lastP_zero, List.getD_eq_getElem?_getD, List.getElem?_eq_getElem hi]; exact h.pages _ (List.getElem_mem _)
    | succ k ih =>
      rw [lastP_succ D i k (by omega)]
      split
      · exact (h.pend _ (List.getElem_mem _)).2
      · exact ih (by omega)
  rw [← lastP_all]; exact key _ (Nat.le_refl _)
theorem catTo_len {D : DS} (h : D.Ok) (k : Nat) (hk : k ≤ D.pages.length) : (catTo D k).length = k * 128 := by
  induction k with
  | zero => rfl
  | succ k ih => rw [catTo_succ, List.length_append, ih (by omega), content_len h k (by omega)]; omega

/-- Between two rounds of a loop that gathers the pages' contents. -/
def CtR (w : World) (D : DS) (wx : World) (v3 v4 : Value) (W : World) : Prop :=
  ∃ k : Nat, v4 = .int .i64 k ∧ k ≤ D.pages.length ∧ Ow W wx.heap.size v3 (catTo D k) ∧ Below wx.heap.size wx W

set_option maxRecDepth 100000 in
set_option maxHeartbeats 2000000 in
theorem contents_l (d : Nat) (F : List Nat) (D : DS) (w : World) (h : Disk w d F D) (hf : D.failed = false) (hpg : D.pages.length ≤ 1000000) :
    Calls Try.prog 24 #[.pointer (some ⟨d, 0, none⟩)] w (Fresh w (dContents D)) := by
  have H := hide h
  have HPG := hide hpg
  have hpgi : (D.pages.length : Int) ≤ 1000000 := by omega
  have HF := hide hf
  have HOK := hide h.ok
  clear h hpg hf
  go_enter Try.func24, Try.ntmps24
  go_wp2_with fail
  go_loopw [3, 4, 5, 6] (fun v3 v4 v5 v6 wr => CtR w D w v3 v4 wr) (fun _ v4 _ _ _ => D.pages.length - (intOf v4).toNat)
  case atStart => exact ⟨0, rfl, Nat.zero_le _, Ow.empty w, (Below.refl _ _).alloc (Nat.le_refl _) _⟩
  case round =>
    obtain ⟨k, rfl, hk, how, hb⟩ := hrel
    have HPA := hide (pages_c d F D wr (H.out.step hb))
    have HRD := hide (read_c d F D (k : Int) wr (H.out.step hb))
    unfold ReadR at HRD
    have HO := hide how
    have HB := hide hb
    have HK := hide hk
    clear how hb
    by_cases hlt : k < D.pages.length
    · have hrd : dRead D (k : Int) = (content D k, 0) := by unfold dRead; rw [if_neg (by simp [HF.out]), if_pos ((thereB_iff D k).2 ⟨by omega, by omega⟩)]; rfl
      rw [hrd] at HRD
      have HCL : Hid ((catTo D k).length + (content D k).length ≤ 140737488355328) := hide (by rw [catTo_len HOK.out k hk, content_len HOK.out k hlt]; have := HPG.out; omega)
      have hki : (k : Int) < (D.pages.length : Int) := by omega
      have HLT := hide hlt
      obtain ⟨A3, m3, c3, rfl, hm3, _, _⟩ := HO.out.formN
      clear hrd hk hlt hm3
      go_wp2_with fail
      refine HPA.out.mono ?_
      rintro e w1 ⟨rfl, rfl⟩
      clear HPA
      go_wp2_with fail
      refine HRD.out.mono ?_
      rintro e w1 ⟨v, rfl, hv, hvo, hb1⟩
      obtain ⟨Av, mv, cv, rfl⟩ := hv.form2
      have HV := hide hv
      have HB1 := hide (HB.out.trans (hb1.mono HB.out.size))
      have HO1 := hide (HO.out.step hb1)
      clear HRD hv hvo hb1
      go_wp2_with (first
        | (refine wpList_append_bs rfl (.tmp 20) (.tmp 21) rfl w.heap.size (v := .slice A3 m3 c3) rfl HO1.out rfl HV.out HCL.out HB1.out.size ?_; intro v2 w2 how hg hat; have HO2 := hide how; have HB2 : Hid (Below w.heap.size w w2) := hide (below_append HB1.out HO1.out hg HB1.out.size (Nat.le_refl _)); clear how hg hat))
      go_roundw
      case rel => exact ⟨k + 1, by go_num, HLT.out, by rw [catTo_succ]; exact HO2.out, HB2.out⟩
      case measure => have := HLT.out; simp [intOf]; omega
    · obtain rfl : k = D.pages.length := by omega
      obtain ⟨A3, m3, c3, rfl, hm3, _, _⟩ := HO.out.formN
      clear hlt hm3
      go_wp2_with fail
      refine HPA.out.mono ?_
      rintro e w1 ⟨rfl, rfl⟩
      go_wp2_with fail
      go_ret
      exact ⟨_, rfl, HO.out, HB.out⟩

/-- What of the state Contents looks at. -/
def live (D : DS) : DS := { D with fuse := 0, failed := false }
theorem live_ok {D : DS} (h : D.Ok) : (live D).Ok := ⟨h.pages, h.pend, by show -1 ≤ (0 : Int) ∧ (0 : Int) ≤ 9223372036854775807; omega⟩
theorem below_first (w : World) (o : Obj) : Below w.heap.size w (w.alloc o) := (Below.refl _ w).alloc (Nat.le_refl _) _

set_option maxRecDepth 100000 in
set_option maxHeartbeats 2000000 in
theorem contents_r (F : List Nat) (v : Value) (D : DS) (w : World) (h : Rf w F v D) (hpl : D.pend.length ≤ 1000000) (hpg : D.pages.length ≤ 1000000) :
    Calls Try.prog 38 #[v] w (Fresh w (dContents D)) := by
  have HPG := hide hpg
  have HOK := hide h.ok
  obtain ⟨dv, pv, vs, xs, rfl, hk⟩ := h
  obtain ⟨A, c, rfl, hc, hcm⟩ := hk.dur.form
  obtain ⟨B, b, rfl, hb, hbm⟩ := hk.pend.form
  have HRD := hide (fun (w' : World) (k : Below w.heap.size w w') (p : Int) => rread_c F (rv (.slice A D.pages.length c) (.slice B D.pend.length b) (live D)) (live D) p w' ⟨_, _, vs, xs, rfl, (hk.step k).other rfl rfl (live_ok hk.ok)⟩ hpl hpg)
  unfold rv at HRD ⊢
  simp only [live] at HRD
  clear hk hpl hpg
  obtain ⟨n, hn⟩ : ∃ n, n = D.pages.length := ⟨_, rfl⟩
  rw [← hn] at HRD hc ⊢
  have HN := hide hn
  clear hn
  generalize D.pend.length = m at *
  generalize D.fuse = z at *
  generalize D.failed = fl at *
  go_enter Try.func38, Try.ntmps38
  go_wp2_with fail
  go_loopw [3, 4, 5, 6] (fun v3 v4 v5 v6 wr => CtR w D (w.alloc (.cells #[.slice A n c, .slice B m b, .int .i64 z, .bool fl] 53)) v3 v4 wr) (fun _ v4 _ _ _ => n - (intOf v4).toNat)
  case atStart => exact ⟨0, rfl, Nat.zero_le _, Ow.empty1 w _ _ (by simp), (Below.refl _ _).alloc (Nat.le_refl _) _⟩
  case round =>
    obtain ⟨k, rfl, hk, how, hb⟩ := hrel
    have hbox := (Blk.new w 53 #[.slice A n c, .slice B m b, .int .i64 z, .bool fl]).step hb
    obtain ⟨k0, k1, k2, k3, f0, f1, f2, f3⟩ := blk4 hbox
    have HBW : Hid (Below w.heap.size w wr) := hide ((below_first w _).trans (hb.mono (by simp)))
    have HRDk := hide (HRD.out wr HBW.out (k : Int))
    have HO := hide how
    have HB := hide hb
    have HK := hide hk
    clear how hb hbox
    by_cases hlt : k < n
    · have hrd : dRead (live D) (k : Int) = (content D k, 0) := by unfold dRead; rw [if_neg (by simp [live]), if_pos ((thereB_iff (live D) k).2 ⟨by omega, by show (k : Int) < D.pages.length; rw [← HN.out]; omega⟩)]; rfl
      simp only [live] at hrd
      rw [hrd] at HRDk
      have HCL : Hid ((catTo D k).length + (content D k).length ≤ 140737488355328) := hide (by rw [catTo_len HOK.out k hk, content_len HOK.out k (by rw [← HN.out]; exact hlt)]; have := HPG.out; omega)
      have hki : (k : Int) < (n : Int) := by omega
      have HLT := hide hlt
      obtain ⟨A3, m3, c3, rfl, hm3, _, _⟩ := HO.out.formN
      clear hrd hk hlt hm3
      go_wp2_with fail
      refine HRDk.out.mono ?_
      rintro e w1 ⟨v, rfl, hv, hb1⟩
      obtain ⟨Av, mv, cv, rfl, hmv, _, _⟩ := hv.formN
      have HV := hide hv.bs
      have HB1 := hide (HB.out.trans (hb1.mono HB.out.size))
      have HO1 := hide (HO.out.step hb1)
      clear HRDk hv hb1 hmv k0 k1 k2 k3 f0 f1 f2 f3
      go_wp2_with (first
        | (refine wpList_append_bs rfl (.tmp 25) (.tmp 26) rfl _ (v := .slice A3 m3 c3) rfl HO1.out rfl HV.out HCL.out HB1.out.size ?_; intro v2 w2 how hg hat; have HO2 := hide how; have HB2 := hide (below_append HB1.out HO1.out hg HB1.out.size (Nat.le_refl _)); clear how hg hat))
      go_roundw
      case rel =>
        refine ⟨k + 1, by go_num, by rw [← HN.out]; exact HLT.out, by rw [catTo_succ]; exact HO2.out, HB2.out⟩
      case measure => have := HLT.out; simp [intOf]; omega
    · obtain rfl : k = n := by have := HN.out; omega
      obtain ⟨A3, m3, c3, rfl, hm3, _, _⟩ := HO.out.formN
      clear hlt hm3
      go_wp2_with fail
      go_ret
      exact ⟨_, rfl, by unfold dContents; rw [← HN.out]; exact HO.out.mono (by simp), HBW.out⟩

theorem row_lit1 (w : World) (o : Obj) (base : Nat) (t : TypeId) (size n : Nat) (cs : List Value) (hl : cs.length = n * size) (hn : n ≤ maxLen) (hb : base ≤ w.heap.size) :
    ((w.alloc o).alloc (.cells cs.toArray t)).ownsRow base t size (.slice (some ⟨w.heap.size + 1, 0, none⟩) n n) n cs := by
  have h := row_lit (w.alloc o) base t size n cs hl hn (by rw [World.size_alloc]; omega)
  rw [World.size_alloc] at h
  exact h
theorem one_slice (A : Option Addr) (m c : Nat) : ∀ u ∈ [Value.slice A m c], u.oneCell' = true := by intro u hu; simp at hu; subst hu; rfl
def zpage : List UInt8 := List.replicate 128 0
/-- Between two rounds of New. -/
structure Nwl (w : World) (F : List Nat) (n i : Nat) (v : Value) (vs : List Value) (W : World) : Prop where
  le : i ≤ n
  row : Row W 28 1 v i vs
  pgs : Pgs W (v.ownBlock.toList ++ ([w.heap.size, w.heap.size + 1] ++ F)) vs (List.replicate i zpage)
  box : Blk W (w.heap.size + 1) 53 #[v, .slice none 0 0, .int .i64 (-1), .bool false]
  res : Blk W w.heap.size 53 #[.slice none 0 0, .slice none 0 0, .int .i64 0, .bool false]
  b : Below w.heap.size w W
  own : ∀ j, v.ownBlock = some j → w.heap.size + 2 ≤ j
  size : w.heap.size + 2 ≤ W.heap.size
def NwR (w : World) (F : List Nat) (n : Nat) (v5 : Value) (W : World) : Prop := ∃ (i : Nat) (v : Value) (vs : List Value), v5 = .int .i64 i ∧ Nwl w F n i v vs W
theorem nwl_next {w wr W3 : World} {F : List Nat} {n i c5 c6 : Nat} {A5 A6 : Option Addr} {vs : List Value} (h : Nwl w F n i (.slice A5 i c5) vs wr) (hF : ∀ j ∈ F, j < w.heap.size)
    (ho : W3.ownsRow 0 28 1 (.slice A6 (i + 1) c6) (i + 1) (vs ++ [.slice (some ⟨wr.heap.size, 0, none⟩) 128 128]))
    (hg : ((wr.drew.alloc (.cells (zb 128) 5)).alloc (.cells #[.slice (some ⟨wr.heap.size, 0, none⟩) 128 128] 28)).grownBy W3 (Value.slice A5 i c5).ownBlock)
    (ha : (Value.slice A6 (i + 1) c6).ownBlock = (Value.slice A5 i c5).ownBlock ∨ (Value.slice A6 (i + 1) c6).ownBlock = some ((wr.drew.alloc (.cells (zb 128) 5)).alloc (.cells #[.slice (some ⟨wr.heap.size, 0, none⟩) 128 128] 28)).heap.size)
    (hb : Blk W3 (w.heap.size + 1) 53 #[.slice A5 i c5, .slice none 0 0, .int .i64 (-1), .bool false]) (hi : i < n) :
    Nwl w F n (i + 1) (.slice A6 (i + 1) c6) (vs ++ [.slice (some ⟨wr.heap.size, 0, none⟩) 128 128]) (W3.setCell ⟨w.heap.size + 1, 0, none⟩ (.slice A6 (i + 1) c6)) := by
  have hsz := h.size
  have hown := h.own
  have hw2 : ((wr.drew.alloc (.cells (zb 128) 5)).alloc (.cells #[.slice (some ⟨wr.heap.size, 0, none⟩) 128 128] 28)).heap.size = wr.heap.size + 2 := by rw [World.size_alloc, World.size_alloc]; rfl
  have hgs := hg.size
  rw [hw2] at hgs
  have kb : Below wr.heap.size wr ((wr.drew.alloc (.cells (zb 128) 5)).alloc (.cells #[.slice (some ⟨wr.heap.size, 0, none⟩) 128 128] 28)) := (((Below.refl wr.heap.size wr).drew).alloc (Nat.le_refl _) _).alloc (by rw [World.size_alloc]; exact Nat.le_succ _) _
  have k2 : Touch (Value.slice A5 i c5).ownBlock.toList wr W3 := (Touch.below kb _).next (Touch.grown hg) (fun t ht => .inl ht)
  have T : Touch [w.heap.size + 1] W3 (W3.setCell ⟨w.heap.size + 1, 0, none⟩ (.slice A6 (i + 1) c6)) := (Touch.refl _ _).set (by simp) 0 _
  have hown2 : ∀ j, (Value.slice A6 (i + 1) c6).ownBlock = some j → w.heap.size + 2 ≤ j ∧ (j ∈ (Value.slice A5 i c5).ownBlock.toList ∨ wr.heap.size + 2 ≤ j) := fun j hj => by
    rcases ha with e | e
    · rw [hj] at e
      exact ⟨hown j e.symm, .inl (Option.mem_toList.2 e.symm)⟩
    · rw [hj, hw2] at e
      have e2 : j = wr.heap.size + 2 := by injection e
      exact ⟨by omega, .inr (by omega)⟩
  have hin : ∀ j ∈ (Value.slice A6 (i + 1) c6).ownBlock.toList ++ ([w.heap.size, w.heap.size + 1] ++ F), j ∈ (Value.slice A5 i c5).ownBlock.toList ++ ([w.heap.size, w.heap.size + 1] ++ F) ∨ wr.heap.size + 2 ≤ j := fun j hj => by
    rcases List.mem_append.1 hj with hj | hj
    · rcases (hown2 j (Option.mem_toList.1 hj)).2 with h1 | h1
      · exact .inl (List.mem_append.2 (.inl h1))
      · exact .inr h1
    · exact .inl (List.mem_append.2 (.inr hj))
  have hp1 : Pgs W3 ((Value.slice A6 (i + 1) c6).ownBlock.toList ++ ([w.heap.size, w.heap.size + 1] ++ F)) vs (List.replicate i zpage) :=
    h.pgs.touch (k2.mono fun s hs => .inl (List.mem_append.2 (.inl hs))) fun j hj => (hin j hj).imp_right (fun e => by omega)
  have hz : Blk ((wr.drew.alloc (.cells (zb 128) 5)).alloc (.cells #[.slice (some ⟨wr.heap.size, 0, none⟩) 128 128] 28)) wr.heap.size 5 (zb 128) := (Blk.new wr.drew _ _).alloc _
  have hz3 : Blk W3 wr.heap.size 5 (zb 128) := hz.grown hg (fun e => by have h1 := (World.ownsRow.lt h.row _ e.symm).2; omega)
  have hp2 : Bs W3 (.slice (some ⟨wr.heap.size, 0, none⟩) 128 128) zpage := Bs.blk hz3 (zb_list 128) 128 (by simp [zpage]) (by simp [zpage, maxLen])
  have hp3 : Apart W3 ((Value.slice A6 (i + 1) c6).ownBlock.toList ++ ([w.heap.size, w.heap.size + 1] ++ F)) (.slice (some ⟨wr.heap.size, 0, none⟩) 128 128) := fun j hj => by
    have e : wr.heap.size = j := by injection hj
    subst e
    refine ⟨by omega, fun hm => ?_⟩
    rcases List.mem_append.1 hm with hm | hm
    · rcases (hown2 _ (Option.mem_toList.1 hm)).2 with h1 | h1
      · have := (World.ownsRow.lt h.row _ (Option.mem_toList.1 h1)).2; omega
      · omega
    · simp at hm
      rcases hm with e | e | e
      · omega
      · omega
      · have := hF _ e; omega
  have hp4 := (hp1.snoc hp2 hp3).touch (T.mono fun s hs => .inl (by simp at hs; subst hs; simp)) (F' := (Value.slice A6 (i + 1) c6).ownBlock.toList ++ ([w.heap.size, w.heap.size + 1] ++ F)) fun j hj => .inl hj
  have e : List.replicate i zpage ++ [zpage] = List.replicate (i + 1) zpage := List.replicate_succ'.symm
  rw [e] at hp4
  have hts := T.size
  refine ⟨hi, Row.touch ho T (fun j hj => by have := (hown2 j hj).1; simp; omega), hp4, hb.put 0 _, ?_, ?_, fun j hj => (hown2 j hj).1, by omega⟩
  · refine ((h.res.touch k2 (fun hm => ?_)).far (by simp) _)
    have := hown _ (Option.mem_toList.1 hm); omega
  · exact (Below.touch h.b k2 (fun s hs => by have := hown _ (Option.mem_toList.1 hs); omega) h.b.size).setCell (Nat.le_succ _) _

set_option maxRecDepth 100000 in
set_option maxHeartbeats 4000000 in
theorem new_r (F : List Nat) (n : Nat) (h1 : 1 ≤ n) (hn : n ≤ 4096) (w : World) (hF : ∀ j ∈ F, j < w.heap.size) :
    Calls Try.prog 26 #[.int .i64 n] w (GivesRE w F (dNew n, 0)) := by
  have hm : ∀ W : World, (Instr.makeSlice 28 (.int .i64 128) (.int .i64 128)).run Try.prog W = .ok (.slice (some ⟨W.heap.size, 0, none⟩) 128 128) (W.alloc (.cells (zb 128) 5)) := run_make_bytes 128 (by decide)
  have HF := hide hF
  have HN := hide hn
  have hge : (1 : Int) ≤ (n : Int) := by omega
  have hle : (n : Int) ≤ 4096 := by omega
  clear hF hn h1
  obtain ⟨i0, hi0, hz0, hz1, hz2⟩ := info_parts info_sl
  go_enter Try.func26, Try.ntmps26
  go_wp2_with fail
  go_loopw [5] (fun v5 wr => NwR w F n v5 wr) (fun v5 _ => n - (intOf v5).toNat)
  case atStart =>
    refine ⟨0, .slice none 0 0, [], rfl, ⟨Nat.zero_le _, World.ownsRow_nil _ _ _ _, Pgs.nil _ _, ?_, (Blk.new w _ _).alloc _, below_two w _ _, (fun j hj => by cases hj), by simp [Nat.add_assoc]⟩⟩
    have h := Blk.new (w.alloc (.cells #[.slice none 0 0, .slice none 0 0, .int .i64 0, .bool false] 53)) 53 #[.slice none 0 0, .slice none 0 0, .int .i64 (-1), .bool false]
    rw [World.size_alloc] at h
    exact h
  case round =>
    obtain ⟨i, v, vs, rfl, hst⟩ := hrel
    obtain ⟨A5, c5, rfl, hic, hcm⟩ := hst.row.form
    have HST := hide hst
    have HROW := hide hst.row
    have HOWN := hide hst.own
    have HBOX := hide hst.box
    have HI : Hid (i ≤ 4096) := hide (by have := hst.le; have := HN.out; omega)
    obtain ⟨k0, k1, k2, k3, f0, f1, f2, f3⟩ := blk4 hst.box
    have HC1 : Hid ((wr.alloc (.cells (zb 128) 5)).cell? ⟨w.heap.size + 1, 0, none⟩ = some (.slice A5 i c5)) := hide ((hst.box.alloc _).cell 0)
    have HC2 : Hid (((wr.alloc (.cells (zb 128) 5)).alloc (.cells #[.slice (some ⟨wr.heap.size, 0, none⟩) 128 128] 28)).cell? ⟨w.heap.size + 1, 0, none⟩ = some (.slice A5 i c5)) := hide (((hst.box.alloc _).alloc _).cell 0)
    by_cases hlt : i < n
    · have hki : (i : Int) < (n : Int) := by omega
      have HLT := hide hlt
      clear hst hlt
      go_wp2_with fail
      refine wp_region_held_drew (S := fun _ => True) (by kernel_rfl) trivial (fun hS0 => ?_)
      simp only [List.size_toArray, List.length_cons, List.length_nil, Nat.reduceAdd, Array.replicate_succ, Array.replicate_zero, List.push_toArray, List.append_toArray, List.nil_append, List.cons_append]
      refine wpAnyH_take (i := 0) (v := ?vn0) rfl (by kernel_rfl) (by kernel_rfl) (by kernel_rfl) (fun _ _ _ h => h) (Or.inl ⟨by rfl, ?hyn0⟩) (by assumption) ?restn0
      case hyn0 => (intro w hSw; (try dsimp only at hSw); go_simp; first | done | (with_reducible rfl))
      try simp only [Act.put, List.getElem_toArray, List.getElem_cons_zero, List.getElem_cons_succ, List.setIfInBounds_toArray, List.set_cons_zero, List.set_cons_succ]
      refine' have_tail0 (fun tail => ?_) ?_
      rotate_left
      · refine wpAnyH_ready (rs := [1, 2]) (by kernel_rfl) (by simp) ?_
        refine AllReadyH.cons rfl (fun K hK => ?_) (AllReadyH.cons rfl (fun K hK => ?_) AllReadyH.nil)
        · go_simp
          refine hK.out _ _ trivial (fun _ => ?_)
          clear hK K
          try simp only [Act.put, List.getElem_toArray, List.getElem_cons_zero, List.getElem_cons_succ, List.setIfInBounds_toArray, List.set_cons_zero, List.set_cons_succ]
          refine wpAnyH_ready (rs := [2]) (by kernel_rfl) (by simp) ?_
          refine AllReadyH.cons rfl (fun K hK => ?_) AllReadyH.nil
          go_simp
          refine hK.out _ _ trivial (fun _ => ?_)
          clear hK K
          try simp only [Act.put, List.getElem_toArray, List.getElem_cons_zero, List.getElem_cons_succ, List.setIfInBounds_toArray, List.set_cons_zero, List.set_cons_succ]
          refine wpAnyH_ready (rs := [3]) (by kernel_rfl) (by simp) ?_
          refine AllReadyH.cons rfl (fun K hK => ?_) AllReadyH.nil
          go_simp
          refine hK.out _ _ trivial (fun _ => ?_)
          clear hK K
          try simp only [Act.put, List.getElem_toArray, List.getElem_cons_zero, List.getElem_cons_succ, List.setIfInBounds_toArray, List.set_cons_zero, List.set_cons_succ]
          exact tail
        · go_simp
          refine hK.out _ _ trivial (fun _ => ?_)
          clear hK K
          try simp only [Act.put, List.getElem_toArray, List.getElem_cons_zero, List.getElem_cons_succ, List.setIfInBounds_toArray, List.set_cons_zero, List.set_cons_succ]
          refine wpAnyH_ready (rs := [1, 3]) (by kernel_rfl) (by simp) ?_
          refine AllReadyH.cons rfl (fun K hK => ?_) (AllReadyH.cons rfl (fun K hK => ?_) AllReadyH.nil)
          · have cq := HC1.out
            go_simp
            refine hK.out _ _ trivial (fun _ => ?_)
            clear hK K
            try simp only [Act.put, List.getElem_toArray, List.getElem_cons_zero, List.getElem_cons_succ, List.setIfInBounds_toArray, List.set_cons_zero, List.set_cons_succ]
            refine wpAnyH_ready (rs := [3]) (by kernel_rfl) (by simp) ?_
            refine AllReadyH.cons rfl (fun K hK => ?_) AllReadyH.nil
            go_simp
            refine hK.out _ _ trivial (fun _ => ?_)
            clear hK K
            try simp only [Act.put, List.getElem_toArray, List.getElem_cons_zero, List.getElem_cons_succ, List.setIfInBounds_toArray, List.set_cons_zero, List.set_cons_succ]
            exact tail
          · go_simp
            refine hK.out _ _ trivial (fun _ => ?_)
            clear hK K
            try simp only [Act.put, List.getElem_toArray, List.getElem_cons_zero, List.getElem_cons_succ, List.setIfInBounds_toArray, List.set_cons_zero, List.set_cons_succ]
            refine wpAnyH_ready (rs := [1]) (by kernel_rfl) (by simp) ?_
            refine AllReadyH.cons rfl (fun K hK => ?_) AllReadyH.nil
            have cq := HC2.out
            go_simp
            refine hK.out _ _ trivial (fun _ => ?_)
            clear hK K
            try simp only [Act.put, List.getElem_toArray, List.getElem_cons_zero, List.getElem_cons_succ, List.setIfInBounds_toArray, List.set_cons_zero, List.set_cons_succ]
            exact tail
      refine wpAnyH_ready (rs := [4]) (by kernel_rfl) (by simp) ?_
      refine AllReadyH.cons rfl (fun K hK => ?_) AllReadyH.nil
      refine step_append_row rfl (.tmp 20) (.tmp 22) 50 rfl 0 0 28 i0 _ 1 24 Try.underlying50 hi0 hz0 hz1 hz2 rfl (by decide) (v := .slice A5 i c5) (n := i) (m := 1) rfl (World.ownsRow.alloc (World.ownsRow.alloc HROW.out _) _) rfl (row_lit1 wr.drew _ 0 28 1 1 [.slice (some ⟨wr.heap.size, 0, none⟩) 128 128] rfl (by decide) (Nat.zero_le _)) (one_slice _ _ _) (by have := HI.out; unfold maxLen; omega) (by have := HI.out; omega) (Nat.zero_le _) ?_
      intro v1 W3 how hg hat
      obtain ⟨A6, c6, rfl, _⟩ := Row.form how
      have HO := hide how
      have HG := hide hg
      have HA := hide hat
      have hbox3 : Blk W3 (w.heap.size + 1) 53 #[.slice A5 i c5, .slice none 0 0, .int .i64 (-1), .bool false] := ((HBOX.out.drew.alloc _).alloc _).grown hg (fun e => by have := HOWN.out _ e.symm; omega)
      have HB3 := hide hbox3
      obtain ⟨j0, j1, j2, j3, g0, g1, g2, g3⟩ := blk4 hbox3
      clear how hg hat hbox3
      refine hK.out _ _ trivial (fun _ => ?_)
      clear hK K
      try simp only [Act.put, List.getElem_toArray, List.getElem_cons_zero, List.getElem_cons_succ, List.setIfInBounds_toArray, List.set_cons_zero, List.set_cons_succ]
      refine wpAnyH_take (i := 5) (v := ?vn5) rfl (by kernel_rfl) (by kernel_rfl) (by kernel_rfl) (fun _ _ _ h => h) (Or.inl ⟨by rfl, ?hyn5⟩) (by assumption) ?restn5
      case hyn5 => (intro w hSw; (try dsimp only at hSw); go_simp; first | done | (with_reducible rfl))
      try simp only [Act.put, List.getElem_toArray, List.getElem_cons_zero, List.getElem_cons_succ, List.setIfInBounds_toArray, List.set_cons_zero, List.set_cons_succ]
      refine wpAnyH_ready (rs := [6]) (by kernel_rfl) (by simp) ?_
      refine AllReadyH.cons rfl (fun K hK => ?_) AllReadyH.nil
      go_simp
      refine hK.out _ _ trivial (fun _ => ?_)
      clear hK K
      try simp only [Act.put, List.getElem_toArray, List.getElem_cons_zero, List.getElem_cons_succ, List.setIfInBounds_toArray, List.set_cons_zero, List.set_cons_succ]
      refine wpAnyH_done (by kernel_rfl) ?_ _
      go_wp2_with fail
      go_roundw
      case rel => exact ⟨i + 1, _, _, by go_num, nwl_next HST.out HF.out HO.out HG.out HA.out HB3.out HLT.out⟩
      case measure => have := HLT.out; simp [intOf]; omega
    · obtain rfl : i = n := by have := hst.le; omega
      obtain ⟨j0, j1, j2, j3, g0, g1, g2, g3⟩ := blk4 hst.res
      clear hst hlt
      go_wp2_with fail
      refine bodyPost_ret (results_row_tmp rfl _ _ w.heap.size 53 #[.slice A5 i c5, .slice none 0 0, .int .i64 (-1), .bool false] (0, 0) _ (.int .i64 0) rfl rfl ?hr Try.underlying53 rfl size_disk) rfl ?hp
      case hr => exact ((((HST.out.res.put 0 _).put 1 _).put 2 _).put 3 _)
      case hp =>
        clear k0 k1 k2 k3 f0 f1 f2 f3 j0 j1 j2 j3 g0 g1 g2 g3
        have T5 : Touch [w.heap.size, w.heap.size + 1] wr _ := (((((Touch.refl [w.heap.size, w.heap.size + 1] wr).set (g := w.heap.size) (.inl (by simp)) 0 (.slice A5 i c5)).set (g := w.heap.size) (.inl (by simp)) 1 (.slice none 0 0)).set (g := w.heap.size) (.inl (by simp)) 2 (.int .i64 (-1))).set (g := w.heap.size) (.inl (by simp)) 3 (.bool false))
        generalize hWf : (World.setCell _ _ _) = Wf at T5 ⊢
        have hBf := Below.touch HST.out.b T5 (by simp) HST.out.b.size
        have hown := HST.out.own
        have hsz := T5.size
        have hp1 : Pgs wr ([w.heap.size, w.heap.size + 1] ++ F) vs (List.replicate i zpage) := HST.out.pgs.less fun j hj => List.mem_append.2 (.inr hj)
        refine ⟨_, rfl, ⟨.slice A5 i c5, .slice none 0 0, vs, [], rfl, ?_, World.ownsRow_nil _ _ _ _, ?_, Pds.nil _ _, ?_, (fun j hj => by cases hj), dNew_ok i⟩, hBf⟩
        · show Row Wf _ 1 _ (List.replicate i (List.replicate 128 (0 : UInt8))).length vs
          rw [List.length_replicate]
          exact Row.touch HST.out.row T5 (fun j hj => by have := hown j hj; simp; omega)
        · exact (hp1.touch (T5.mono (fun s hs => .inl (by simp at hs ⊢; omega))) (fun j hj => .inl hj)).less (fun j hj => by simp [hj])
        · exact Apart.new HF.out (fun j hj => ⟨by have := hown j hj; omega, by have := (World.ownsRow.lt HST.out.row j hj).2; omega⟩)
end Go.Proofs.Ytlpnichgfhgdmaa
