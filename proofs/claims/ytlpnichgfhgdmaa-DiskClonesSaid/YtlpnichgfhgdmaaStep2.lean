/- The law's step, but for writes. -/
import Derived.Test.YtlpnichgfhgdmaaStep
import Derived.LaidEqlPtr
namespace Go.Proofs.Ytlpnichgfhgdmaa
open Go.ChangeShapes Go.WideShapes Go.ChangeAt Go.RowKit
set_option linter.unusedVariables false
set_option linter.unusedSimpArgs false

theorem neq_ptr {d2 d : Nat} {w : World} {ca cb : Array Value} {ta tb : TypeId} (h : d2 ≠ d) (ha : Blk w d2 ta ca) (hb : Blk w d tb cb) : (binOp .neq 23 (.pointer (some ⟨d2, 0, none⟩)) (.pointer (some ⟨d, 0, none⟩))).run Try.prog w = .ok (.bool true) w := by
  obtain ⟨i0, hi0, hs0⟩ : ∃ i0, Try.prog.info? 63 = some i0 ∧ i0.size ≠ 0 := by
    have hq : (Try.prog.info? 63).map (·.size) = some 4 := by kernel_rfl
    cases hi : Try.prog.info? 63 with
    | none => rw [hi] at hq; cases hq
    | some i => rw [hi] at hq; injection hq with hq; exact ⟨i, rfl, by rw [show i.size = 4 from hq]; decide⟩
  have hq : ∀ k : Nat, (Op.equalIn (k + 1) 23 (.pointer (some ⟨d2, 0, none⟩)) (.pointer (some ⟨d, 0, none⟩))).run Try.prog w = .ok false w := fun k => by
    simp [Op.equalIn, run_underlying Try.underlying23, sizeOf, typeInfo, hi0, hs0, run_sameAddr_other w (a := ⟨d2, 0, none⟩) (b := ⟨d, 0, none⟩) (by intro e; injection e with e; exact h e) ha hb]
  simp only [binOp]
  simp [Op.equal, Op.maxDepth, hq 9999]
theorem Disk.blk {w : World} {d : Nat} {F : List Nat} {D : DS} (h : Disk w d F D) : d ∈ F ∧ ∃ cs, Blk w d 63 cs := by obtain ⟨gv, pv, h⟩ := h; exact ⟨h.inF, _, h.blk⟩
theorem Is.touchN {S : List Nat} {w w' : World} {v : Value} {l : List Int} (h : Is w v l) (k : Touch S w w') (hv : l ≠ [] → ∀ j, v.ownBlock = some j → j ∉ S) : Is w' v l := by
  by_cases hl : l = []
  · subst hl
    obtain ⟨A, c, e, h1, h2, h3, _⟩ := h
    exact ⟨A, c, e, h1, h2, h3, fun h0 => by simp at h0⟩
  · exact h.touch k (hv hl)
set_option maxHeartbeats 1000000 in
theorem crash_cN (d : Nat) (F : List Nat) (D : DS) (s : Value) (l : List Int) (w : World) (h : Disk w d F D) (hs : Is w s l) (hF : l ≠ [] → ∀ j, s.ownBlock = some j → j ∉ F) :
    Calls Try.prog 20 #[.pointer (some ⟨d, 0, none⟩), s] w (Does w d F (dCrash D l) (.tuple #[])) := by
  have hmf : ∀ (fn : Fn) (first cap : Array Value) (w : World), (Instr.makeFunc fn first cap).run Try.prog w = .ok (.func fn first cap) w := fun _ _ _ _ => rfl
  have H := hide h
  have HS := hide hs
  clear h hs
  obtain ⟨A, c, hsv⟩ : ∃ A c, s = .slice A l.length c := by obtain ⟨A, c, e, _⟩ := HS.out; exact ⟨A, c, e⟩
  generalize hn : l.length = n at hsv
  clear hn
  subst hsv
  go_enter_defers Try.func20, Try.ntmps20
  go_wp2_with fail
  generalize hw1 : (w.alloc (Obj.cells #[.pointer (some ⟨d, 0, none⟩)] _)).alloc (Obj.cells #[Value.slice A n c] _) = w1
  have kw : Below w.heap.size w w1 := by rw [← hw1]; exact ((Below.refl _ _).alloc (Nat.le_refl _) _).alloc (by simp) _
  have hb0 : w1.cell? ⟨w.heap.size, 0, none⟩ = some (.pointer (some ⟨d, 0, none⟩)) := by rw [← hw1]; simp [go_sem]
  have hb1 : w1.cell? ⟨w.heap.size + 1, 0, none⟩ = some (Value.slice A n c) := by rw [← hw1]; simp [go_sem]
  have hsz : w1.heap.size = w.heap.size + 2 := by rw [← hw1]; simp
  have hdisk := H.out.step kw
  have hsv := HS.out.step kw
  clear hw1
  have hset := settle_crash (w.heap.size + 1) d F D (fun i => l.getD i 0) w1 hdisk (fun i wr ht => by
    have hlt : ∀ j ∈ F, j < w.heap.size := by obtain ⟨gv, pv, h⟩ := H.out; exact h.lt
    exact crash2_c (w.heap.size + 1) _ l i wr ((World.cell?_of_block (ht.block (w.heap.size + 1) (by omega) (fun hh => by have := hlt _ hh; omega))).trans hb1) (hsv.touchN ht hF))
  refine hset.mono ?_
  rintro e w2 ⟨rfl, F2, hd2, ht2, hF2⟩
  clear hset
  go_wp2_with fail
  have hlt : ∀ j ∈ F, j < w.heap.size := by obtain ⟨gv, pv, h⟩ := H.out; exact h.lt
  have hinF : d < w.heap.size := by obtain ⟨gv, pv, h⟩ := H.out; exact hlt _ h.inF
  refine leaves_cons (f := 34) (args := #[.pointer (some ⟨w.heap.size, 0, none⟩)]) (by simp) (by simp [go_sem]) ?_
  refine (crash1_c w.heap.size d F2 _ .returning w2 ((World.cell?_of_block (ht2.block w.heap.size (by omega) (fun hh => by have := hlt _ hh; omega))).trans hb0) (by omega) hd2).mono ?_
  rintro e u' w3 ⟨rfl, hdoes⟩
  have hall := Does.then ((Touch.below kw F).trans ht2) (fun j hj => by
    rcases hF2 j hj with h | h
    · exact .inl h
    · exact .inr (by omega)) hdoes
  obtain ⟨rfl, hall⟩ := hall
  exact ⟨_, results_none rfl _ _ _, rfl, hall⟩
theorem step_fin {w Wx W5 : World} {d : Nat} {F F' : List Nat} {D' : DS} {dv pv : Value} {vs : List Value} {xs : List (Nat × Value)} (hd : Disk Wx d F' D') (hk : Rk Wx ([w.heap.size, w.heap.size + 1, w.heap.size + 2] ++ F') D' dv pv vs xs) (ht : Touch F w Wx)
    (hF : ∀ j ∈ F', j ∈ F ∨ w.heap.size + 3 ≤ j) (hlt : ∀ j ∈ F, j < w.heap.size) (h5 : Touch [w.heap.size + 2] Wx W5) : Disk W5 d F' D' ∧ Rk W5 F' D' dv pv vs xs ∧ Touch F w W5 ∧ ∀ j ∈ F', j ∈ F ∨ w.heap.size ≤ j := by
  refine ⟨hd.touch h5 (fun j hj hm => ?_), ?_, ht.next h5 (fun t ht => .inr (by simp at ht; omega)), fun j hj => (hF j hj).imp_right (fun e => by omega)⟩
  · simp at hm; subst hm
    rcases hF _ hj with e | e
    · have := hlt _ e; omega
    · omega
  · exact hk.touch (h5.mono (fun s hs => .inl (by simp at hs; subst hs; simp))) (fun j hj => .inl (List.mem_append.2 (.inr hj)))

set_option maxRecDepth 100000 in
set_option maxHeartbeats 8000000 in
theorem step_fail (d : Nat) (F : List Nat) (v : Value) (D : DS) (x : OpV) (w : World) (hkind : x.kind = 3) (h : Disk w d F D) (hr : Rf w F v D) (hx : x.Ok w) (hpl : D.pend.length ≤ 100000) (hpg : D.pages.length ≤ 100000) (hxF : x.sl ≠ [] → ∀ j, x.sv.ownBlock = some j → j ∉ F) :
    Calls Try.prog 28 #[.pointer (some ⟨d, 0, none⟩), v, x.val] w (StepR w F (dStep D x)) := by
  have hd : dStep D x = dFailAfter D x.n := by unfold dStep; rw [if_neg (by rw [hkind]; decide), if_neg (by rw [hkind]; decide), if_pos hkind]
  rw [hd]
  have HXF := hide hxF
  clear hxF
  obtain ⟨As, ms, cs, hsv, _, _, _⟩ := hx.surv.formN
  obtain ⟨A, n, c, B, m, b, vs, xs, rfl, hk⟩ := hr.form
  have HLT := hide h.lt
  have HD0 := hide h
  have HR0 := hide hr
  have HSV := hide hsv
  have HDA := hide (fun (X : World) (k : Below w.heap.size w X) => data_c x X (hx.step k))
  unfold OpV.val at HDA ⊢
  rw [hsv] at HDA ⊢
  unfold rv
  generalize hz : D.fuse = z at *
  generalize hfl : D.failed = fl at *
  have HZ := hide hz
  have HFL := hide hfl
  have HKK := hide hk
  have HX := hide hx
  have HPL := hide hpl
  have HPG := hide hpg
  have hk0 : (x.kind == 0) = false := by rw [hkind]; rfl
  have hk1 : (x.kind == 1) = false := by rw [hkind]; rfl
  have hk2 : (x.kind == 2) = false := by rw [hkind]; rfl
  have hk3 : (x.kind == 3) = true := by rw [hkind]; rfl
  clear h hr hx hpl hpg hk hd hz hfl hkind hsv HDA
  go_enter Try.func28, Try.ntmps28
  go_wp2_with fail
  obtain ⟨Wb, hWb⟩ : ∃ Wb, Wb = (((w.alloc (.cells #[.slice A n c, .slice B m b, .int .i64 z, .bool fl] 53)).alloc (.cells #[.int .i64 x.kind, .int .i64 x.page, .int .i64 x.n, .int .u8 x.fill, .int .u8 x.short, .slice As ms cs] 45)).alloc (.cells #[.slice none 0 0, .slice none 0 0, .int .i64 0, .bool false] 53)) := ⟨_, rfl⟩
  rw [← hWb]
  have HB3 : Hid (Base3 w A n c B m b z fl x (.slice As ms cs) Wb) := hide (by rw [hWb]; exact base3_new w A n c B m b z fl x _)
  have HBW : Hid (Below w.heap.size w Wb) := hide (by rw [hWb]; exact below_three w _ _ _)
  have HK0 : Hid (Rk Wb ([w.heap.size, w.heap.size + 1, w.heap.size + 2] ++ F) D (.slice A n c) (.slice B m b) vs xs) := hide (HKK.out.touch (Touch.below HBW.out F) (fun j hj => by
    rcases List.mem_append.1 hj with e | e
    · right; simp at e; omega
    · exact .inl e))
  clear hWb
  refine (failAfter_c d F D x.n HX.out.n.2 Wb (HD0.out.step HBW.out)).mono ?_
  rintro e W1 ⟨rfl, F', hd', ht', hF'⟩
  have HD' := hide hd'
  have HT' := hide ht'
  have HF' := hide hF'
  have HB4 := hide (HB3.out.touch ht' (fun j hj => .inl (HLT.out j hj)))
  have HK1 : Hid (Rk W1 ([w.heap.size, w.heap.size + 1, w.heap.size + 2] ++ F') D (.slice A n c) (.slice B m b) vs xs) := hide (HK0.out.touch (ht'.mono (fun s hs => .inl (List.mem_append.2 (.inr hs)))) (fun j hj => by rcases List.mem_append.1 hj with e | e; exact .inl (List.mem_append.2 (.inl e)); exact (hF' j e).imp_left (fun e => List.mem_append.2 (.inr e))))
  have HLT1 : Hid (∀ j ∈ [w.heap.size, w.heap.size + 1, w.heap.size + 2] ++ F', j < W1.heap.size) := hide (fun j hj => by rcases List.mem_append.1 hj with e | e; (have := HB4.out.size; simp at e; omega); exact hd'.lt j e)
  clear hd' ht' hF'
  obtain ⟨a0, a1, a2, a3, fa0, fa1, fa2, fa3⟩ := blk4 HB4.out.ref
  obtain ⟨o0, o1, o2, o3, o4, o5⟩ := blk6 HB4.out.op
  go_wp2_with fail
  have HC := hide (failAfter_r ([w.heap.size, w.heap.size + 1, w.heap.size + 2] ++ F') (rv (.slice A n c) (.slice B m b) D) D x.n HX.out.n.2 W1 ⟨_, _, vs, xs, rfl, HK1.out⟩)
  unfold rv at HC
  rw [HZ.out, HFL.out] at HC
  refine HC.out.mono ?_
  rintro e W2 ⟨vr, rfl, hr2, hb2⟩
  obtain ⟨A', n', c', B', m', b', vs', xs', rfl, hk'⟩ := hr2.form
  unfold rv
  have HK2 := hide hk'
  have HB2 := hide hb2
  have HB5 := hide (HB4.out.touch (Touch.below hb2 []) (by simp))
  clear hr2 hk' hb2 HC a0 a1 a2 a3 fa0 fa1 fa2 fa3 o0 o1 o2 o3 o4 o5
  generalize hz1 : (dFailAfter D x.n).fuse = z1
  generalize hfl1 : (dFailAfter D x.n).failed = fl1
  have HZ1 := hide hz1
  have HFL1 := hide hfl1
  clear hz1 hfl1
  go_wp2_with (first
    | (refine wpList_store_blk rfl 53 (.tmp 7) (.tmp 92) rfl (w.heap.size + 2) 53 #[.slice none 0 0, .slice none 0 0, .int .i64 0, .bool false] #[.slice A' n' c', .slice B' m' b', .int .i64 z1, .bool fl1] rfl rfl HB5.out.res rfl size_disk (one_rv _ _ _ _ _ _ _ _) ?_; intro W5 hx5 ht5 hs5; have HX6 := hide hx5; have HT5 := hide ht5; clear hx5 ht5 hs5))
  refine bodyPost_ret (results_tmp_row_tmp rfl _ _ (w.heap.size + 2) 53 #[.slice A' n' c', .slice B' m' b', .int .i64 z1, .bool fl1] (0, 0) _ (.pointer (some ⟨d, 0, none⟩)) (.bool true) ?h1 rfl ?h2 ?h3 Try.underlying53 rfl size_disk) rfl ?hp
  case h1 => first | rfl | simp
  case h2 => first | rfl | simp
  case h3 => exact HX6.out
  case hp =>
    have hws := HB3.out.size
    have hf : ∀ j ∈ F', j ∈ F ∨ w.heap.size + 3 ≤ j := fun j hj => (HF'.out j hj).imp_right (fun e => Nat.le_trans hws e)
    obtain ⟨h1, h2, h3, h4⟩ := step_fin (HD'.out.step HB2.out) HK2.out (((Touch.below HBW.out F).trans HT'.out).step HB2.out) hf HLT.out HT5.out
    exact ⟨d, F', _, rfl, h1, ⟨_, _, vs', xs', by simp [rv, HZ1.out, HFL1.out], h2⟩, h3, h4⟩

set_option maxRecDepth 100000 in
set_option maxHeartbeats 8000000 in
theorem step_crash (d : Nat) (F : List Nat) (v : Value) (D : DS) (x : OpV) (w : World) (hkind : x.kind = 4) (h : Disk w d F D) (hr : Rf w F v D) (hx : x.Ok w) (hpl : D.pend.length ≤ 100000) (hpg : D.pages.length ≤ 100000) (hxF : x.sl ≠ [] → ∀ j, x.sv.ownBlock = some j → j ∉ F) :
    Calls Try.prog 28 #[.pointer (some ⟨d, 0, none⟩), v, x.val] w (StepR w F (dStep D x)) := by
  have hd : dStep D x = dCrash D x.sl := by unfold dStep; rw [if_neg (by rw [hkind]; decide), if_neg (by rw [hkind]; decide), if_neg (by rw [hkind]; decide), if_pos hkind]
  rw [hd]
  have HXF := hide hxF
  clear hxF
  obtain ⟨As, ms, cs, hsv, _, _, _⟩ := hx.surv.formN
  obtain ⟨A, n, c, B, m, b, vs, xs, rfl, hk⟩ := hr.form
  have HLT := hide h.lt
  have HD0 := hide h
  have HR0 := hide hr
  have HSV := hide hsv
  have HDA := hide (fun (X : World) (k : Below w.heap.size w X) => data_c x X (hx.step k))
  unfold OpV.val at HDA ⊢
  rw [hsv] at HDA ⊢
  unfold rv
  generalize hz : D.fuse = z at *
  generalize hfl : D.failed = fl at *
  have HZ := hide hz
  have HFL := hide hfl
  have HKK := hide hk
  have HX := hide hx
  have HPL := hide hpl
  have HPG := hide hpg
  have hk0 : (x.kind == 0) = false := by rw [hkind]; rfl
  have hk1 : (x.kind == 1) = false := by rw [hkind]; rfl
  have hk2 : (x.kind == 2) = false := by rw [hkind]; rfl
  have hk3 : (x.kind == 3) = false := by rw [hkind]; rfl
  have hk4 : (x.kind == 4) = true := by rw [hkind]; rfl
  clear h hr hx hpl hpg hk hd hz hfl hkind hsv HDA
  go_enter Try.func28, Try.ntmps28
  go_wp2_with fail
  obtain ⟨Wb, hWb⟩ : ∃ Wb, Wb = (((w.alloc (.cells #[.slice A n c, .slice B m b, .int .i64 z, .bool fl] 53)).alloc (.cells #[.int .i64 x.kind, .int .i64 x.page, .int .i64 x.n, .int .u8 x.fill, .int .u8 x.short, .slice As ms cs] 45)).alloc (.cells #[.slice none 0 0, .slice none 0 0, .int .i64 0, .bool false] 53)) := ⟨_, rfl⟩
  rw [← hWb]
  have HB3 : Hid (Base3 w A n c B m b z fl x (.slice As ms cs) Wb) := hide (by rw [hWb]; exact base3_new w A n c B m b z fl x _)
  have HBW : Hid (Below w.heap.size w Wb) := hide (by rw [hWb]; exact below_three w _ _ _)
  have HK0 : Hid (Rk Wb ([w.heap.size, w.heap.size + 1, w.heap.size + 2] ++ F) D (.slice A n c) (.slice B m b) vs xs) := hide (HKK.out.touch (Touch.below HBW.out F) (fun j hj => by
    rcases List.mem_append.1 hj with e | e
    · right; simp at e; omega
    · exact .inl e))
  clear hWb
  refine (crash_cN d F D _ x.sl Wb (HD0.out.step HBW.out) (by have h := HX.out.surv.step HBW.out; rw [HSV.out] at h; exact h) (by have h := HXF.out; rw [HSV.out] at h; exact h)).mono ?_
  rintro e W1 ⟨rfl, F', hd', ht', hF'⟩
  have HD' := hide hd'
  have HT' := hide ht'
  have HF' := hide hF'
  have HB4 := hide (HB3.out.touch ht' (fun j hj => .inl (HLT.out j hj)))
  have HK1 : Hid (Rk W1 ([w.heap.size, w.heap.size + 1, w.heap.size + 2] ++ F') D (.slice A n c) (.slice B m b) vs xs) := hide (HK0.out.touch (ht'.mono (fun s hs => .inl (List.mem_append.2 (.inr hs)))) (fun j hj => by rcases List.mem_append.1 hj with e | e; exact .inl (List.mem_append.2 (.inl e)); exact (hF' j e).imp_left (fun e => List.mem_append.2 (.inr e))))
  have HLT1 : Hid (∀ j ∈ [w.heap.size, w.heap.size + 1, w.heap.size + 2] ++ F', j < W1.heap.size) := hide (fun j hj => by rcases List.mem_append.1 hj with e | e; (have := HB4.out.size; simp at e; omega); exact hd'.lt j e)
  clear hd' ht' hF'
  obtain ⟨a0, a1, a2, a3, fa0, fa1, fa2, fa3⟩ := blk4 HB4.out.ref
  obtain ⟨o0, o1, o2, o3, o4, o5⟩ := blk6 HB4.out.op
  go_wp2_with fail
  have HC := hide (crash_r ([w.heap.size, w.heap.size + 1, w.heap.size + 2] ++ F') (rv (.slice A n c) (.slice B m b) D) D _ x.sl W1 ⟨_, _, vs, xs, rfl, HK1.out⟩ (by have h := HX.out.surv.step HBW.out; rw [HSV.out] at h; exact h.touchN HT'.out (by have h := HXF.out; rw [HSV.out] at h; exact h)) HLT1.out (by have := HPL.out; omega) (by have := HPG.out; omega))
  unfold rv at HC
  rw [HZ.out, HFL.out] at HC
  refine HC.out.mono ?_
  rintro e W2 ⟨vr, rfl, hr2, hb2⟩
  obtain ⟨A', n', c', B', m', b', vs', xs', rfl, hk'⟩ := hr2.form
  unfold rv
  have HK2 := hide hk'
  have HB2 := hide hb2
  have HB5 := hide (HB4.out.touch (Touch.below hb2 []) (by simp))
  clear hr2 hk' hb2 HC a0 a1 a2 a3 fa0 fa1 fa2 fa3 o0 o1 o2 o3 o4 o5
  generalize hz1 : (dCrash D x.sl).fuse = z1
  generalize hfl1 : (dCrash D x.sl).failed = fl1
  have HZ1 := hide hz1
  have HFL1 := hide hfl1
  clear hz1 hfl1
  go_wp2_with (first
    | (refine wpList_store_blk rfl 53 (.tmp 7) (.tmp 103) rfl (w.heap.size + 2) 53 #[.slice none 0 0, .slice none 0 0, .int .i64 0, .bool false] #[.slice A' n' c', .slice B' m' b', .int .i64 z1, .bool fl1] rfl rfl HB5.out.res rfl size_disk (one_rv _ _ _ _ _ _ _ _) ?_; intro W5 hx5 ht5 hs5; have HX6 := hide hx5; have HT5 := hide ht5; clear hx5 ht5 hs5))
  refine bodyPost_ret (results_tmp_row_tmp rfl _ _ (w.heap.size + 2) 53 #[.slice A' n' c', .slice B' m' b', .int .i64 z1, .bool fl1] (0, 0) _ (.pointer (some ⟨d, 0, none⟩)) (.bool true) ?h1 rfl ?h2 ?h3 Try.underlying53 rfl size_disk) rfl ?hp
  case h1 => first | rfl | simp
  case h2 => first | rfl | simp
  case h3 => exact HX6.out
  case hp =>
    have hws := HB3.out.size
    have hf : ∀ j ∈ F', j ∈ F ∨ w.heap.size + 3 ≤ j := fun j hj => (HF'.out j hj).imp_right (fun e => Nat.le_trans hws e)
    obtain ⟨h1, h2, h3, h4⟩ := step_fin (HD'.out.step HB2.out) HK2.out (((Touch.below HBW.out F).trans HT'.out).step HB2.out) hf HLT.out HT5.out
    exact ⟨d, F', _, rfl, h1, ⟨_, _, vs', xs', by simp [rv, HZ1.out, HFL1.out], h2⟩, h3, h4⟩
theorem four_of {W : World} {g : Nat} {t : TypeId} {a b c d : Value} (h : Blk W g t #[a, b, c, d]) : W.cell? ⟨g, 0, none⟩ = some a ∧ W.cell? ⟨g, 1, none⟩ = some b ∧ W.cell? ⟨g, 2, none⟩ = some c ∧ W.cell? ⟨g, 3, none⟩ = some d := ⟨h.cell 0, h.cell 1, h.cell 2, h.cell 3⟩

set_option maxRecDepth 100000 in
set_option maxHeartbeats 8000000 in
theorem step_sync (d : Nat) (F : List Nat) (v : Value) (D : DS) (x : OpV) (w : World) (hkind : x.kind = 2) (h : Disk w d F D) (hr : Rf w F v D) (hx : x.Ok w) (hpl : D.pend.length ≤ 100000) (hpg : D.pages.length ≤ 100000) :
    Calls Try.prog 28 #[.pointer (some ⟨d, 0, none⟩), v, x.val] w (StepR w F (dStep D x)) := by
  have hd : dStep D x = (dSync D).1 := by unfold dStep; rw [if_neg (by rw [hkind]; decide), if_pos hkind]
  rw [hd]
  obtain ⟨As, ms, cs, hsv, _, _, _⟩ := hx.surv.formN
  obtain ⟨A, n, c, B, m, b, vs, xs, rfl, hk⟩ := hr.form
  have HLT := hide h.lt
  have HD0 := hide h
  have HR0 := hide hr
  have HSV := hide hsv
  have HDA := hide (fun (X : World) (k : Below w.heap.size w X) => data_c x X (hx.step k))
  unfold OpV.val at HDA ⊢
  rw [hsv] at HDA ⊢
  unfold rv
  generalize hz : D.fuse = z at *
  generalize hfl : D.failed = fl at *
  have HZ := hide hz
  have HFL := hide hfl
  have HKK := hide hk
  have HX := hide hx
  have HPL := hide hpl
  have HPG := hide hpg
  have hk0 : (x.kind == 0) = false := by rw [hkind]; rfl
  have hk1 : (x.kind == 1) = false := by rw [hkind]; rfl
  have hk2 : (x.kind == 2) = true := by rw [hkind]; rfl
  clear h hr hx hpl hpg hk hd hz hfl hkind hsv HDA
  go_enter Try.func28, Try.ntmps28
  go_wp2_with fail
  obtain ⟨Wb, hWb⟩ : ∃ Wb, Wb = (((w.alloc (.cells #[.slice A n c, .slice B m b, .int .i64 z, .bool fl] 53)).alloc (.cells #[.int .i64 x.kind, .int .i64 x.page, .int .i64 x.n, .int .u8 x.fill, .int .u8 x.short, .slice As ms cs] 45)).alloc (.cells #[.slice none 0 0, .slice none 0 0, .int .i64 0, .bool false] 53)) := ⟨_, rfl⟩
  rw [← hWb]
  have HB3 : Hid (Base3 w A n c B m b z fl x (.slice As ms cs) Wb) := hide (by rw [hWb]; exact base3_new w A n c B m b z fl x _)
  have HBW : Hid (Below w.heap.size w Wb) := hide (by rw [hWb]; exact below_three w _ _ _)
  have HK0 : Hid (Rk Wb ([w.heap.size, w.heap.size + 1, w.heap.size + 2] ++ F) D (.slice A n c) (.slice B m b) vs xs) := hide (HKK.out.touch (Touch.below HBW.out F) (fun j hj => by
    rcases List.mem_append.1 hj with e | e
    · right; simp at e; omega
    · exact .inl e))
  clear hWb
  have hlt2 : ∀ j ∈ [w.heap.size, w.heap.size + 1, w.heap.size + 2] ++ F, j < Wb.heap.size := fun j hj => by rcases List.mem_append.1 hj with e | e; (have := HB3.out.size; simp at e; omega); (have := HLT.out j e; have := HB3.out.size; omega)
  have HC := hide (sync_r ([w.heap.size, w.heap.size + 1, w.heap.size + 2] ++ F) (rv (.slice A n c) (.slice B m b) D) D Wb ⟨_, _, vs, xs, rfl, HK0.out⟩ hlt2 (by have := HPL.out; omega) (by have := HPG.out; omega))
  have HSY := hide (fun (X : World) (hX : Disk X d F D) => sync_c d F D X hX)
  unfold rv at HC
  rw [HZ.out, HFL.out] at HC
  generalize dSync D = r at *
  obtain ⟨r1, ec⟩ := r
  simp only at HSY ⊢
  refine HC.out.mono ?_
  rintro e W1 ⟨vr, rfl, hr2, hb2⟩
  simp only at hr2 ⊢
  obtain ⟨A', n', c', B', m', b', vs', xs', rfl, hk'⟩ := hr2.form
  unfold rv
  generalize hz1 : r1.fuse = z1
  generalize hfl1 : r1.failed = fl1
  have HZ1 := hide hz1
  have HFL1 := hide hfl1
  have HK1 := hide hk'
  have HB4 := hide (HB3.out.touch (Touch.below hb2 []) (by simp))
  have HBW1 := hide (HBW.out.trans (hb2.mono HBW.out.size))
  clear hz1 hfl1 hr2 hk' hb2 HC hlt2
  go_wp2_with fail
  obtain ⟨g, hg⟩ : ∃ g, g = W1.heap.size := ⟨_, rfl⟩
  obtain ⟨W3, hW3⟩ : ∃ W3, W3 = W1.alloc (.cells #[.slice A' n' c', .slice B' m' b', .int .i64 z1, .bool fl1] 53) := ⟨_, rfl⟩
  rw [← hg, ← hW3]
  have HX3 : Hid (Blk W3 g 53 #[.slice A' n' c', .slice B' m' b', .int .i64 z1, .bool fl1]) := hide (by rw [hW3, hg]; exact Blk.new W1 _ _)
  have hk1 : Below W1.heap.size W1 W3 := by rw [hW3]; exact (Below.refl _ _).alloc (Nat.le_refl _) _
  have HB5 := hide (HB4.out.touch (Touch.below hk1 []) (by simp))
  have HK3 := hide (HK1.out.step hk1)
  have HBW3 := hide (HBW1.out.trans (hk1.mono HBW1.out.size))
  have HGL : Hid (w.heap.size + 3 ≤ g) := hide (by rw [hg]; exact HB4.out.size)
  clear hg hW3 hk1
  refine wp_region_held_drew (S := fun w' => w'.cell? ⟨g, 0, none⟩ = some (.slice A' n' c') ∧ w'.cell? ⟨g, 1, none⟩ = some (.slice B' m' b') ∧ w'.cell? ⟨g, 2, none⟩ = some (.int .i64 z1) ∧ w'.cell? ⟨g, 3, none⟩ = some (.bool fl1)) (by kernel_rfl) (four_of HX3.out.drew) (fun hS0 => ?_)
  refine wpAnyH_take (i := 0) (v := ?vy0) rfl (by kernel_rfl) (by kernel_rfl) (by kernel_rfl) (fun _ _ _ h => h) (Or.inl ⟨by rfl, ?hyy0⟩) (by assumption) ?resty0
  case hyy0 => (intro w hSw; (try dsimp only at hSw); go_simp; first | done | (with_reducible rfl))
  try simp only [Act.put, List.getElem_toArray, List.getElem_cons_zero, List.getElem_cons_succ, List.setIfInBounds_toArray, List.set_cons_zero, List.set_cons_succ]
  refine wpAnyH_take (i := 1) (v := ?vy1) rfl (by kernel_rfl) (by kernel_rfl) (by kernel_rfl) (fun _ _ _ h => h) (Or.inl ⟨by rfl, ?hyy1⟩) (by assumption) ?resty1
  case hyy1 => (intro w hSw; (try dsimp only at hSw); go_simp; first | done | (with_reducible rfl))
  try simp only [Act.put, List.getElem_toArray, List.getElem_cons_zero, List.getElem_cons_succ, List.setIfInBounds_toArray, List.set_cons_zero, List.set_cons_succ]
  refine wpAnyH_take (i := 2) (v := ?vy2) rfl (by kernel_rfl) (by kernel_rfl) (by kernel_rfl) (fun _ _ _ h => h) (Or.inl ⟨by rfl, ?hyy2⟩) (by assumption) ?resty2
  case hyy2 => (intro w hSw; (try dsimp only at hSw); go_simp; first | done | (with_reducible rfl))
  try simp only [Act.put, List.getElem_toArray, List.getElem_cons_zero, List.getElem_cons_succ, List.setIfInBounds_toArray, List.set_cons_zero, List.set_cons_succ]
  refine wpAnyH_take (i := 4) (v := ?vy3) rfl (by kernel_rfl) (by kernel_rfl) (by kernel_rfl) (fun _ _ _ h => h) (Or.inl ⟨by rfl, ?hyy3⟩) (by assumption) ?resty3
  case hyy3 => (intro w hSw; (try dsimp only at hSw); go_simp; first | done | (with_reducible rfl))
  try simp only [Act.put, List.getElem_toArray, List.getElem_cons_zero, List.getElem_cons_succ, List.setIfInBounds_toArray, List.set_cons_zero, List.set_cons_succ]
  refine wpAnyH_ready (rs := [3]) (by kernel_rfl) (by simp) ?_
  refine AllReadyH.cons rfl (fun K hK => ?_) AllReadyH.nil
  go_simp
  refine (HSY.out W3.drew (HD0.out.step HBW3.out.drew)).mono ?_
  rintro e Wx ⟨rfl, F', hd', ht', hF'⟩
  have HD' := hide hd'
  have HT' : Hid (Touch F W3 Wx) := hide ((((Touch.refl F W3).drew).trans ht'))
  have HF' : Hid (∀ j ∈ F', j ∈ F ∨ W3.heap.size ≤ j) := hide hF'
  have HX5 := hide (HX3.out.drew.touch ht' (fun hm => by have := HLT.out _ hm; have := HGL.out; omega))
  have HB7 := hide (HB5.out.touch HT'.out (fun j hj => .inl (HLT.out j hj)))
  have HK5 := hide (HK3.out.touch (F' := [w.heap.size, w.heap.size + 1, w.heap.size + 2] ++ F') (HT'.out.mono (fun s hs => .inl (List.mem_append.2 (.inr hs)))) (fun j hj => by rcases List.mem_append.1 hj with e | e; exact .inl (List.mem_append.2 (.inl e)); exact (HF'.out j e).imp_left (fun e => List.mem_append.2 (.inr e))))
  clear hd' ht' hF'
  refine hK.out _ _ (four_of HX5.out) (fun hS4 => ?_)
  clear hK K
  try simp only [Act.put, List.getElem_toArray, List.getElem_cons_zero, List.getElem_cons_succ, List.setIfInBounds_toArray, List.set_cons_zero, List.set_cons_succ]
  refine wpAnyH_take (i := 5) (v := ?vy5) rfl (by kernel_rfl) (by kernel_rfl) (by kernel_rfl) (fun _ _ _ h => h) (Or.inl ⟨by rfl, ?hyy5⟩) (by assumption) ?resty5
  case hyy5 => (intro w hSw; (try dsimp only at hSw); go_simp; first | done | (with_reducible rfl))
  try simp only [Act.put, List.getElem_toArray, List.getElem_cons_zero, List.getElem_cons_succ, List.setIfInBounds_toArray, List.set_cons_zero, List.set_cons_succ]
  refine wpAnyH_take (i := 6) (v := ?vy6) rfl (by kernel_rfl) (by kernel_rfl) (by kernel_rfl) (fun _ _ _ h => h) (Or.inl ⟨by rfl, ?hyy6⟩) (by assumption) ?resty6
  case hyy6 => (intro w hSw; (try dsimp only at hSw); go_simp; first | done | (with_reducible rfl))
  try simp only [Act.put, List.getElem_toArray, List.getElem_cons_zero, List.getElem_cons_succ, List.setIfInBounds_toArray, List.set_cons_zero, List.set_cons_succ]
  refine wpAnyH_ready (rs := [7]) (by kernel_rfl) (by simp) ?_
  refine AllReadyH.cons rfl (fun K hK => ?_) AllReadyH.nil
  refine step_store_blk rfl 53 (.tmp 7) (.tmp 77) rfl (w.heap.size + 2) 53 #[.slice none 0 0, .slice none 0 0, .int .i64 0, .bool false] #[.slice A' n' c', .slice B' m' b', .int .i64 z1, .bool fl1] rfl rfl HB7.out.res rfl size_disk (one_rv _ _ _ _ _ _ _ _) ?_
  intro W5 hx5 ht5 hs5
  have HX6 := hide hx5
  have HT5 := hide ht5
  have HX7 := hide (HX5.out.touch ht5 (by simp; have := HGL.out; omega))
  clear hx5 ht5 hs5
  refine hK.out _ _ (four_of HX7.out) (fun hS7 => ?_)
  clear hK K
  try simp only [Act.put, List.getElem_toArray, List.getElem_cons_zero, List.getElem_cons_succ, List.setIfInBounds_toArray, List.set_cons_zero, List.set_cons_succ]
  refine wpAnyH_take (i := 8) (v := ?vy8) rfl (by kernel_rfl) (by kernel_rfl) (by kernel_rfl) (fun _ _ _ h => h) (Or.inl ⟨by rfl, ?hyy8⟩) (by assumption) ?resty8
  case hyy8 => (intro w hSw; (try dsimp only at hSw); go_simp; first | done | (with_reducible rfl))
  try simp only [Act.put, List.getElem_toArray, List.getElem_cons_zero, List.getElem_cons_succ, List.setIfInBounds_toArray, List.set_cons_zero, List.set_cons_succ]
  refine wpAnyH_done (by kernel_rfl) ?_ _
  go_wp2_with fail
  refine bodyPost_ret (results_tmp_row_tmp rfl _ _ (w.heap.size + 2) 53 #[.slice A' n' c', .slice B' m' b', .int .i64 z1, .bool fl1] (0, 0) _ (.pointer (some ⟨d, 0, none⟩)) (.bool true) ?h1 rfl ?h2 ?h3 Try.underlying53 rfl size_disk) rfl ?hp
  case h1 => first | rfl | simp
  case h2 => first | rfl | simp
  case h3 => exact HX6.out
  case hp =>
    have hws := HB5.out.size
    have hf : ∀ j ∈ F', j ∈ F ∨ w.heap.size + 3 ≤ j := fun j hj => (HF'.out j hj).imp_right (fun e => Nat.le_trans hws e)
    obtain ⟨h1, h2, h3, h4⟩ := step_fin HD'.out HK5.out ((Touch.below HBW3.out F).trans HT'.out) hf HLT.out HT5.out
    exact ⟨d, F', _, rfl, h1, ⟨_, _, vs', xs', by simp [rv, HZ1.out, HFL1.out], h2⟩, h3, h4⟩

set_option maxRecDepth 100000 in
set_option maxHeartbeats 8000000 in
theorem step_else (d : Nat) (F : List Nat) (v : Value) (D : DS) (x : OpV) (w : World) (hkind : x.kind ≠ 0 ∧ x.kind ≠ 1 ∧ x.kind ≠ 2 ∧ x.kind ≠ 3 ∧ x.kind ≠ 4 ∧ x.kind ≠ 5) (h : Disk w d F D) (hr : Rf w F v D) (hx : x.Ok w) (hpl : D.pend.length ≤ 100000) (hpg : D.pages.length ≤ 100000) :
    Calls Try.prog 28 #[.pointer (some ⟨d, 0, none⟩), v, x.val] w (StepR w F (dStep D x)) := by
  obtain ⟨q0, q1, q2, q3, q4, q5⟩ := hkind
  have hd : dStep D x = D := by unfold dStep; rw [if_neg q0, if_neg q2, if_neg q3, if_neg q4]
  rw [hd]
  have hk0 : (x.kind == 0) = false := by simpa using q0
  have hk1 : (x.kind == 1) = false := by simpa using q1
  have hk2 : (x.kind == 2) = false := by simpa using q2
  have hk3 : (x.kind == 3) = false := by simpa using q3
  have hk4 : (x.kind == 4) = false := by simpa using q4
  have hk5 : (x.kind == 5) = false := by simpa using q5
  clear q0 q1 q2 q3 q4 q5
  obtain ⟨As, ms, cs, hsv, _, _, _⟩ := hx.surv.formN
  obtain ⟨A, n, c, B, m, b, vs, xs, rfl, hk⟩ := hr.form
  have HLT := hide h.lt
  have HD0 := hide h
  have HR0 := hide hr
  have HSV := hide hsv
  have HDA := hide (fun (X : World) (k : Below w.heap.size w X) => data_c x X (hx.step k))
  unfold OpV.val at HDA ⊢
  rw [hsv] at HDA ⊢
  unfold rv
  generalize hz : D.fuse = z at *
  generalize hfl : D.failed = fl at *
  have HZ := hide hz
  have HFL := hide hfl
  have HKK := hide hk
  have HX := hide hx
  have HPL := hide hpl
  have HPG := hide hpg
  clear h hr hx hpl hpg hk hd hz hfl hsv HDA
  go_enter Try.func28, Try.ntmps28
  go_wp2_with fail
  obtain ⟨Wb, hWb⟩ : ∃ Wb, Wb = (((w.alloc (.cells #[.slice A n c, .slice B m b, .int .i64 z, .bool fl] 53)).alloc (.cells #[.int .i64 x.kind, .int .i64 x.page, .int .i64 x.n, .int .u8 x.fill, .int .u8 x.short, .slice As ms cs] 45)).alloc (.cells #[.slice none 0 0, .slice none 0 0, .int .i64 0, .bool false] 53)) := ⟨_, rfl⟩
  rw [← hWb]
  have HB3 : Hid (Base3 w A n c B m b z fl x (.slice As ms cs) Wb) := hide (by rw [hWb]; exact base3_new w A n c B m b z fl x _)
  have HBW : Hid (Below w.heap.size w Wb) := hide (by rw [hWb]; exact below_three w _ _ _)
  have HK0 : Hid (Rk Wb ([w.heap.size, w.heap.size + 1, w.heap.size + 2] ++ F) D (.slice A n c) (.slice B m b) vs xs) := hide (HKK.out.touch (Touch.below HBW.out F) (fun j hj => by
    rcases List.mem_append.1 hj with e | e
    · right; simp at e; omega
    · exact .inl e))
  clear hWb
  refine wp_region_held_drew (S := fun w' => w'.cell? ⟨w.heap.size, 0, none⟩ = some (.slice A n c) ∧ w'.cell? ⟨w.heap.size, 1, none⟩ = some (.slice B m b) ∧ w'.cell? ⟨w.heap.size, 2, none⟩ = some (.int .i64 z) ∧ w'.cell? ⟨w.heap.size, 3, none⟩ = some (.bool fl)) (by kernel_rfl) (four_of HB3.out.ref.drew) (fun hS0 => ?_)
  refine wpAnyH_take (i := 0) (v := ?vo0) rfl (by kernel_rfl) (by kernel_rfl) (by kernel_rfl) (fun _ _ _ h => h) (Or.inl ⟨by rfl, ?hyo0⟩) (by assumption) ?resto0
  case hyo0 => (intro w hSw; (try dsimp only at hSw); go_simp; first | done | (with_reducible rfl))
  try simp only [Act.put, List.getElem_toArray, List.getElem_cons_zero, List.getElem_cons_succ, List.setIfInBounds_toArray, List.set_cons_zero, List.set_cons_succ]
  refine wpAnyH_take (i := 1) (v := ?vo1) rfl (by kernel_rfl) (by kernel_rfl) (by kernel_rfl) (fun _ _ _ h => h) (Or.inl ⟨by rfl, ?hyo1⟩) (by assumption) ?resto1
  case hyo1 => (intro w hSw; (try dsimp only at hSw); go_simp; first | done | (with_reducible rfl))
  try simp only [Act.put, List.getElem_toArray, List.getElem_cons_zero, List.getElem_cons_succ, List.setIfInBounds_toArray, List.set_cons_zero, List.set_cons_succ]
  refine wpAnyH_take (i := 2) (v := ?vo2) rfl (by kernel_rfl) (by kernel_rfl) (by kernel_rfl) (fun _ _ _ h => h) (Or.inl ⟨by rfl, ?hyo2⟩) (by assumption) ?resto2
  case hyo2 => (intro w hSw; (try dsimp only at hSw); go_simp; first | done | (with_reducible rfl))
  try simp only [Act.put, List.getElem_toArray, List.getElem_cons_zero, List.getElem_cons_succ, List.setIfInBounds_toArray, List.set_cons_zero, List.set_cons_succ]
  refine wpAnyH_ready (rs := [3]) (by kernel_rfl) (by simp) ?_
  refine AllReadyH.cons rfl (fun K hK => ?_) AllReadyH.nil
  refine step_store_blk rfl 53 (.tmp 7) (.tmp 118) rfl (w.heap.size + 2) 53 #[.slice none 0 0, .slice none 0 0, .int .i64 0, .bool false] #[.slice A n c, .slice B m b, .int .i64 z, .bool fl] rfl rfl HB3.out.drew.res rfl size_disk (one_rv _ _ _ _ _ _ _ _) ?_
  intro W5 hx5 ht5 hs5
  have HX6 := hide hx5
  have HT5 := hide ht5
  have HR7 := hide (HB3.out.drew.ref.touch ht5 (by simp))
  clear hx5 ht5 hs5
  refine hK.out _ _ (four_of HR7.out) (fun hS3 => ?_)
  clear hK K
  try simp only [Act.put, List.getElem_toArray, List.getElem_cons_zero, List.getElem_cons_succ, List.setIfInBounds_toArray, List.set_cons_zero, List.set_cons_succ]
  refine wpAnyH_take (i := 4) (v := ?vo4) rfl (by kernel_rfl) (by kernel_rfl) (by kernel_rfl) (fun _ _ _ h => h) (Or.inl ⟨by rfl, ?hyo4⟩) (by assumption) ?resto4
  case hyo4 => (intro w hSw; (try dsimp only at hSw); go_simp; first | done | (with_reducible rfl))
  try simp only [Act.put, List.getElem_toArray, List.getElem_cons_zero, List.getElem_cons_succ, List.setIfInBounds_toArray, List.set_cons_zero, List.set_cons_succ]
  refine wpAnyH_done (by kernel_rfl) ?_ _
  go_wp2_with fail
  refine bodyPost_ret (results_tmp_row_tmp rfl _ _ (w.heap.size + 2) 53 #[.slice A n c, .slice B m b, .int .i64 z, .bool fl] (0, 0) _ (.pointer (some ⟨d, 0, none⟩)) (.bool true) ?h1 rfl ?h2 ?h3 Try.underlying53 rfl size_disk) rfl ?hp
  case h1 => first | rfl | simp
  case h2 => first | rfl | simp
  case h3 => exact HX6.out
  case hp =>
    obtain ⟨h1, h2, h3, h4⟩ := step_fin (HD0.out.step HBW.out.drew) (HK0.out.step (Below.refl _ _).drew) (Touch.below HBW.out.drew F) (fun j hj => .inl hj) HLT.out HT5.out
    exact ⟨d, F, _, rfl, h1, ⟨_, _, vs, xs, by simp [rv, HZ.out, HFL.out], h2⟩, h3, h4⟩

set_option maxRecDepth 100000 in
set_option maxHeartbeats 8000000 in
theorem step_clone (d : Nat) (F : List Nat) (v : Value) (D : DS) (x : OpV) (w : World) (hkind : x.kind = 5) (h : Disk w d F D) (hr : Rf w F v D) (hx : x.Ok w) (hpl : D.pend.length ≤ 100000) (hpg : D.pages.length ≤ 100000) :
    Calls Try.prog 28 #[.pointer (some ⟨d, 0, none⟩), v, x.val] w (StepR w F (dStep D x)) := by
  have hd : dStep D x = D := by unfold dStep; rw [if_neg (by rw [hkind]; decide), if_neg (by rw [hkind]; decide), if_neg (by rw [hkind]; decide), if_neg (by rw [hkind]; decide)]
  rw [hd]
  obtain ⟨As, ms, cs, hsv, _, _, _⟩ := hx.surv.formN
  obtain ⟨A, n, c, B, m, b, vs, xs, rfl, hk⟩ := hr.form
  have HLT := hide h.lt
  have HD0 := hide h
  have HR0 := hide hr
  have HSV := hide hsv
  have HDA := hide (fun (X : World) (k : Below w.heap.size w X) => data_c x X (hx.step k))
  unfold OpV.val at HDA ⊢
  rw [hsv] at HDA ⊢
  unfold rv
  generalize hz : D.fuse = z at *
  generalize hfl : D.failed = fl at *
  have HZ := hide hz
  have HFL := hide hfl
  have HKK := hide hk
  have HX := hide hx
  have HPL := hide hpl
  have HPG := hide hpg
  have hk0 : (x.kind == 0) = false := by rw [hkind]; rfl
  have hk1 : (x.kind == 1) = false := by rw [hkind]; rfl
  have hk2 : (x.kind == 2) = false := by rw [hkind]; rfl
  have hk3 : (x.kind == 3) = false := by rw [hkind]; rfl
  have hk4 : (x.kind == 4) = false := by rw [hkind]; rfl
  have hk5 : (x.kind == 5) = true := by rw [hkind]; rfl
  clear h hr hx hpl hpg hk hd hz hfl hkind hsv HDA
  go_enter Try.func28, Try.ntmps28
  go_wp2_with fail
  obtain ⟨Wb, hWb⟩ : ∃ Wb, Wb = (((w.alloc (.cells #[.slice A n c, .slice B m b, .int .i64 z, .bool fl] 53)).alloc (.cells #[.int .i64 x.kind, .int .i64 x.page, .int .i64 x.n, .int .u8 x.fill, .int .u8 x.short, .slice As ms cs] 45)).alloc (.cells #[.slice none 0 0, .slice none 0 0, .int .i64 0, .bool false] 53)) := ⟨_, rfl⟩
  rw [← hWb]
  have HB3 : Hid (Base3 w A n c B m b z fl x (.slice As ms cs) Wb) := hide (by rw [hWb]; exact base3_new w A n c B m b z fl x _)
  have HBW : Hid (Below w.heap.size w Wb) := hide (by rw [hWb]; exact below_three w _ _ _)
  have HK0 : Hid (Rk Wb ([w.heap.size, w.heap.size + 1, w.heap.size + 2] ++ F) D (.slice A n c) (.slice B m b) vs xs) := hide (HKK.out.touch (Touch.below HBW.out F) (fun j hj => by
    rcases List.mem_append.1 hj with e | e
    · right; simp at e; omega
    · exact .inl e))
  clear hWb
  refine (clone_c d F D Wb (HD0.out.step HBW.out) (by have := HPG.out; omega) (by have := HPL.out; omega)).mono ?_
  rintro e W1 ⟨d2, F2, rfl, hne, hd2, hb2, hF2⟩
  have HD2 := hide hd2
  have HB2 := hide hb2
  have HF2 := hide hF2
  have HB4 := hide (HB3.out.touch (Touch.below hb2 []) (by simp))
  have HNE := hide hne
  obtain ⟨cs2, hbk2⟩ := hd2.blk.2
  obtain ⟨hdF, cs1, hbk⟩ := (HD0.out.step (HBW.out.trans (hb2.mono HBW.out.size))).blk
  have HBK2 := hide hbk2
  have HBK1 := hide hbk
  have HDD : Hid (d ≠ w.heap.size + 2 ∧ d2 ≠ w.heap.size + 2) := hide ⟨by have := HLT.out d hdF; omega, by have h1 := hF2 d2 hd2.blk.1; have h3 := HB3.out.size; omega⟩
  have HNQ := hide (neq_ptr hne hbk2.drew hbk.drew)
  clear hd2 hb2 hF2 hne hbk2 hbk hdF
  go_wp2_with fail
  refine wp_region_held_drew (S := fun w' => (w'.cell? ⟨w.heap.size, 0, none⟩ = some (.slice A n c) ∧ w'.cell? ⟨w.heap.size, 1, none⟩ = some (.slice B m b) ∧ w'.cell? ⟨w.heap.size, 2, none⟩ = some (.int .i64 z) ∧ w'.cell? ⟨w.heap.size, 3, none⟩ = some (.bool fl)) ∧ (binOp .neq 23 (.pointer (some ⟨d2, 0, none⟩)) (.pointer (some ⟨d, 0, none⟩))).run Try.prog w' = .ok (.bool true) w') (by kernel_rfl) (⟨four_of HB4.out.ref.drew, HNQ.out⟩) (fun hS0 => ?_)
  refine wpAnyH_take (i := 0) (v := ?vc0) rfl (by kernel_rfl) (by kernel_rfl) (by kernel_rfl) (fun _ _ _ h => h) (Or.inl ⟨by rfl, ?hyc0⟩) (by assumption) ?restc0
  case hyc0 => (intro w hSw; (try dsimp only at hSw); go_simp; first | done | (with_reducible rfl))
  try simp only [Act.put, List.getElem_toArray, List.getElem_cons_zero, List.getElem_cons_succ, List.setIfInBounds_toArray, List.set_cons_zero, List.set_cons_succ]
  refine wpAnyH_take (i := 1) (v := ?vc1) rfl (by kernel_rfl) (by kernel_rfl) (by kernel_rfl) (fun _ _ _ h => h) (Or.inl ⟨by rfl, ?hyc1⟩) (by assumption) ?restc1
  case hyc1 => (intro w hSw; (try dsimp only at hSw); go_simp; first | done | (with_reducible rfl))
  try simp only [Act.put, List.getElem_toArray, List.getElem_cons_zero, List.getElem_cons_succ, List.setIfInBounds_toArray, List.set_cons_zero, List.set_cons_succ]
  refine wpAnyH_take (i := 2) (v := ?vc2) rfl (by kernel_rfl) (by kernel_rfl) (by kernel_rfl) (fun _ _ _ h => h) (Or.inl ⟨by rfl, ?hyc2⟩) (by assumption) ?restc2
  case hyc2 => (intro w hSw; (try dsimp only at hSw); go_simp; first | done | (with_reducible rfl))
  try simp only [Act.put, List.getElem_toArray, List.getElem_cons_zero, List.getElem_cons_succ, List.setIfInBounds_toArray, List.set_cons_zero, List.set_cons_succ]
  refine wpAnyH_take (i := 3) (v := ?vc3) rfl (by kernel_rfl) (by kernel_rfl) (by kernel_rfl) (fun _ _ _ h => h) (Or.inl ⟨by rfl, ?hyc3⟩) (by assumption) ?restc3
  case hyc3 => (intro w hSw; (try dsimp only at hSw); go_simp; first | done | (with_reducible rfl))
  try simp only [Act.put, List.getElem_toArray, List.getElem_cons_zero, List.getElem_cons_succ, List.setIfInBounds_toArray, List.set_cons_zero, List.set_cons_succ]
  refine wpAnyH_take (i := 4) (v := ?vc4) rfl (by kernel_rfl) (by kernel_rfl) (by kernel_rfl) (fun _ _ _ h => h) (Or.inl ⟨by rfl, ?hyc4⟩) (by assumption) ?restc4
  case hyc4 => (intro w hSw; (try dsimp only at hSw); go_simp; first | done | (with_reducible rfl))
  try simp only [Act.put, List.getElem_toArray, List.getElem_cons_zero, List.getElem_cons_succ, List.setIfInBounds_toArray, List.set_cons_zero, List.set_cons_succ]
  refine wpAnyH_take (i := 5) (v := ?vc5) rfl (by kernel_rfl) (by kernel_rfl) (by kernel_rfl) (fun _ _ _ h => h) (Or.inl ⟨by rfl, ?hyc5⟩) (by assumption) ?restc5
  case hyc5 => (intro w hSw; (try dsimp only at hSw); go_simp; first | done | (with_reducible rfl))
  try simp only [Act.put, List.getElem_toArray, List.getElem_cons_zero, List.getElem_cons_succ, List.setIfInBounds_toArray, List.set_cons_zero, List.set_cons_succ]
  refine wpAnyH_take (i := 6) (v := ?vc6) rfl (by kernel_rfl) (by kernel_rfl) (by kernel_rfl) (fun _ _ _ h => h) (Or.inl ⟨by rfl, ?hyc6⟩) (by assumption) ?restc6
  case hyc6 => (intro w hSw; (try dsimp only at hSw); go_simp; first | done | (with_reducible rfl))
  try simp only [Act.put, List.getElem_toArray, List.getElem_cons_zero, List.getElem_cons_succ, List.setIfInBounds_toArray, List.set_cons_zero, List.set_cons_succ]
  refine wpAnyH_take (i := 7) (v := ?vc7) rfl (by kernel_rfl) (by kernel_rfl) (by kernel_rfl) (fun _ _ _ h => h) (Or.inl ⟨by rfl, ?hyc7⟩) (by assumption) ?restc7
  case hyc7 => (intro w hSw; (try dsimp only at hSw); go_simp; first | done | (with_reducible rfl))
  try simp only [Act.put, List.getElem_toArray, List.getElem_cons_zero, List.getElem_cons_succ, List.setIfInBounds_toArray, List.set_cons_zero, List.set_cons_succ]
  refine wpAnyH_take (i := 8) (v := ?vc8) rfl (by kernel_rfl) (by kernel_rfl) (by kernel_rfl) (fun _ _ _ h => h) (Or.inl ⟨by rfl, ?hyc8⟩) (by assumption) ?restc8
  case hyc8 => (intro w hSw; (try dsimp only at hSw); go_simp; first | done | (with_reducible rfl))
  try simp only [Act.put, List.getElem_toArray, List.getElem_cons_zero, List.getElem_cons_succ, List.setIfInBounds_toArray, List.set_cons_zero, List.set_cons_succ]
  refine wpAnyH_take (i := 9) (v := ?vc9) rfl (by kernel_rfl) (by kernel_rfl) (by kernel_rfl) (fun _ _ _ h => h) (Or.inl ⟨by rfl, ?hyc9⟩) (by assumption) ?restc9
  case hyc9 => (intro w hSw; (try dsimp only at hSw); go_simp; first | done | (with_reducible rfl))
  try simp only [Act.put, List.getElem_toArray, List.getElem_cons_zero, List.getElem_cons_succ, List.setIfInBounds_toArray, List.set_cons_zero, List.set_cons_succ]
  refine wpAnyH_ready (rs := [10]) (by kernel_rfl) (by simp) ?_
  refine AllReadyH.cons rfl (fun K hK => ?_) AllReadyH.nil
  refine step_store_blk rfl 53 (.tmp 7) (.tmp 109) rfl (w.heap.size + 2) 53 #[.slice none 0 0, .slice none 0 0, .int .i64 0, .bool false] #[.slice A n c, .slice B m b, .int .i64 z, .bool fl] rfl rfl HB4.out.drew.res rfl size_disk (one_rv _ _ _ _ _ _ _ _) ?_
  intro W5 hx5 ht5 hs5
  have HX6 := hide hx5
  have HT5 := hide ht5
  have HR7 := hide (HB4.out.drew.ref.touch ht5 (by simp))
  clear hx5 ht5 hs5
  refine hK.out _ _ (⟨four_of HR7.out, neq_ptr HNE.out (HBK2.out.drew.touch HT5.out (by simp; exact HDD.out.2)) (HBK1.out.drew.touch HT5.out (by simp; exact HDD.out.1))⟩) (fun hS10 => ?_)
  clear hK K
  try simp only [Act.put, List.getElem_toArray, List.getElem_cons_zero, List.getElem_cons_succ, List.setIfInBounds_toArray, List.set_cons_zero, List.set_cons_succ]
  refine wpAnyH_take (i := 11) (v := ?vc11) rfl (by kernel_rfl) (by kernel_rfl) (by kernel_rfl) (fun _ _ _ h => h) (Or.inl ⟨by rfl, ?hyc11⟩) (by assumption) ?restc11
  case hyc11 => (intro w hSw; (try dsimp only at hSw); go_simp; first | done | (with_reducible rfl))
  try simp only [Act.put, List.getElem_toArray, List.getElem_cons_zero, List.getElem_cons_succ, List.setIfInBounds_toArray, List.set_cons_zero, List.set_cons_succ]
  refine wpAnyH_done (by kernel_rfl) ?_ _
  go_wp2_with fail
  refine bodyPost_ret (results_tmp_row_tmp rfl _ _ (w.heap.size + 2) 53 #[.slice A n c, .slice B m b, .int .i64 z, .bool fl] (0, 0) _ (.pointer (some ⟨d2, 0, none⟩)) (.bool true) ?h1 rfl ?h2 ?h3 Try.underlying53 rfl size_disk) rfl ?hp
  case h1 => first | rfl | simp
  case h2 => first | rfl | simp
  case h3 => exact HX6.out
  case hp =>
    have hk2 : Rk W1.drew ([w.heap.size, w.heap.size + 1, w.heap.size + 2] ++ F2) D _ _ vs xs := HK0.out.touch (Touch.below (HB2.out.trans (Below.refl _ _).drew) _) (fun j hj => by rcases List.mem_append.1 hj with e | e; exact .inl (List.mem_append.2 (.inl e)); exact .inr (HF2.out j e))
    obtain ⟨h1, h2, h3, h4⟩ := step_fin (F := F) (HD2.out.step (Below.refl _ _).drew) hk2 (Touch.below (HBW.out.trans ((HB2.out.trans (Below.refl _ _).drew).mono HBW.out.size)) F) (fun j hj => .inr (Nat.le_trans HB3.out.size (HF2.out j hj))) HLT.out HT5.out
    exact ⟨d2, F2, _, rfl, h1, ⟨_, _, vs, xs, by simp [rv, HZ.out, HFL.out], h2⟩, h3, h4⟩

set_option maxRecDepth 100000 in
set_option maxHeartbeats 8000000 in
theorem step_read (d : Nat) (F : List Nat) (v : Value) (D : DS) (x : OpV) (w : World) (hkind : x.kind = 1) (h : Disk w d F D) (hr : Rf w F v D) (hx : x.Ok w) (hpl : D.pend.length ≤ 100000) (hpg : D.pages.length ≤ 100000) :
    Calls Try.prog 28 #[.pointer (some ⟨d, 0, none⟩), v, x.val] w (StepR w F (dStep D x)) := by
  have hd : dStep D x = D := by unfold dStep; rw [if_neg (by rw [hkind]; decide), if_neg (by rw [hkind]; decide), if_neg (by rw [hkind]; decide), if_neg (by rw [hkind]; decide)]
  rw [hd]
  obtain ⟨As, ms, cs, hsv, _, _, _⟩ := hx.surv.formN
  obtain ⟨A, n, c, B, m, b, vs, xs, rfl, hk⟩ := hr.form
  have HLT := hide h.lt
  have HD0 := hide h
  have HR0 := hide hr
  have HSV := hide hsv
  have HDA := hide (fun (X : World) (k : Below w.heap.size w X) => data_c x X (hx.step k))
  unfold OpV.val at HDA ⊢
  rw [hsv] at HDA ⊢
  unfold rv
  generalize hz : D.fuse = z at *
  generalize hfl : D.failed = fl at *
  have HZ := hide hz
  have HFL := hide hfl
  have HKK := hide hk
  have HX := hide hx
  have HPL := hide hpl
  have HPG := hide hpg
  have hk0 : (x.kind == 0) = false := by rw [hkind]; rfl
  have hk1 : (x.kind == 1) = true := by rw [hkind]; rfl
  clear h hr hx hpl hpg hk hd hz hfl hkind hsv HDA
  go_enter Try.func28, Try.ntmps28
  go_wp2_with fail
  obtain ⟨Wb, hWb⟩ : ∃ Wb, Wb = (((w.alloc (.cells #[.slice A n c, .slice B m b, .int .i64 z, .bool fl] 53)).alloc (.cells #[.int .i64 x.kind, .int .i64 x.page, .int .i64 x.n, .int .u8 x.fill, .int .u8 x.short, .slice As ms cs] 45)).alloc (.cells #[.slice none 0 0, .slice none 0 0, .int .i64 0, .bool false] 53)) := ⟨_, rfl⟩
  rw [← hWb]
  have HB3 : Hid (Base3 w A n c B m b z fl x (.slice As ms cs) Wb) := hide (by rw [hWb]; exact base3_new w A n c B m b z fl x _)
  have HBW : Hid (Below w.heap.size w Wb) := hide (by rw [hWb]; exact below_three w _ _ _)
  have HK0 : Hid (Rk Wb ([w.heap.size, w.heap.size + 1, w.heap.size + 2] ++ F) D (.slice A n c) (.slice B m b) vs xs) := hide (HKK.out.touch (Touch.below HBW.out F) (fun j hj => by
    rcases List.mem_append.1 hj with e | e
    · right; simp at e; omega
    · exact .inl e))
  clear hWb
  have HRD := hide (read_c d F D x.page Wb (HD0.out.step HBW.out))
  unfold ReadR at HRD
  have HRR := hide (fun (X : World) (k : Below Wb.heap.size Wb X) => rread_c ([w.heap.size, w.heap.size + 1, w.heap.size + 2] ++ F) (rv (.slice A n c) (.slice B m b) D) D x.page X ⟨_, _, vs, xs, rfl, HK0.out.step k⟩ (by have := HPL.out; omega) (by have := HPG.out; omega))
  unfold rv at HRR
  rw [HZ.out, HFL.out] at HRR
  unfold RGot at HRR
  generalize dRead D x.page = r at *
  obtain ⟨rl, ec⟩ := r
  simp only at HRD HRR
  refine HRD.out.mono ?_
  rintro e W1 ⟨v1, rfl, hv1, hvo, hb1⟩
  have HV1 := hide hv1
  have HV1O := hide hvo
  have HB1 := hide hb1
  have HB4 := hide (HB3.out.touch (Touch.below hb1 []) (by simp))
  clear HRD hv1 hvo hb1
  obtain ⟨a0, a1, a2, a3, fa0, fa1, fa2, fa3⟩ := blk4 HB4.out.ref
  obtain ⟨o0, o1, o2, o3, o4, o5⟩ := blk6 HB4.out.op
  go_wp2_with fail
  refine (HRR.out W1 HB1.out).mono ?_
  rintro e W2 ⟨v2, rfl, hv2, hb2⟩
  have HV2 := hide hv2.bs
  have HV3 := hide (HV1.out.step hb2)
  have HV2L := hide hv2.lt
  have HB5 := hide (HB4.out.touch (Touch.below hb2 []) (by simp))
  have HB2 := hide (HB1.out.trans (hb2.mono HB1.out.size))
  clear hv2 hb2 HRR a0 a1 a2 a3 fa0 fa1 fa2 fa3 o0 o1 o2 o3 o4 o5
  go_wp2_with fail
  refine wp_region_held_drew (S := fun w' => (w'.cell? ⟨w.heap.size, 0, none⟩ = some (.slice A n c) ∧ w'.cell? ⟨w.heap.size, 1, none⟩ = some (.slice B m b) ∧ w'.cell? ⟨w.heap.size, 2, none⟩ = some (.int .i64 z) ∧ w'.cell? ⟨w.heap.size, 3, none⟩ = some (.bool fl)) ∧ (convert 28 9 v1).run Try.prog w' = .ok (.string ⟨rl.toArray⟩) w' ∧ (convert 28 9 v2).run Try.prog w' = .ok (.string ⟨rl.toArray⟩) w') (by kernel_rfl) (⟨four_of HB5.out.ref.drew, run_string_bs HV3.out.drew, run_string_bs HV2.out.drew⟩) (fun hS0 => ?_)
  refine wpAnyH_take (i := 0) (v := ?vd0) rfl (by kernel_rfl) (by kernel_rfl) (by kernel_rfl) (fun _ _ _ h => h) (Or.inl ⟨by rfl, ?hyd0⟩) (by assumption) ?restd0
  case hyd0 => (intro w hSw; (try dsimp only at hSw); go_simp; first | done | (with_reducible rfl))
  try simp only [Act.put, List.getElem_toArray, List.getElem_cons_zero, List.getElem_cons_succ, List.setIfInBounds_toArray, List.set_cons_zero, List.set_cons_succ]
  refine wpAnyH_take (i := 1) (v := ?vd1) rfl (by kernel_rfl) (by kernel_rfl) (by kernel_rfl) (fun _ _ _ h => h) (Or.inl ⟨by rfl, ?hyd1⟩) (by assumption) ?restd1
  case hyd1 => (intro w hSw; (try dsimp only at hSw); go_simp; first | done | (with_reducible rfl))
  try simp only [Act.put, List.getElem_toArray, List.getElem_cons_zero, List.getElem_cons_succ, List.setIfInBounds_toArray, List.set_cons_zero, List.set_cons_succ]
  refine wpAnyH_take (i := 2) (v := ?vd2) rfl (by kernel_rfl) (by kernel_rfl) (by kernel_rfl) (fun _ _ _ h => h) (Or.inl ⟨by rfl, ?hyd2⟩) (by assumption) ?restd2
  case hyd2 => (intro w hSw; (try dsimp only at hSw); go_simp; first | done | (with_reducible rfl))
  try simp only [Act.put, List.getElem_toArray, List.getElem_cons_zero, List.getElem_cons_succ, List.setIfInBounds_toArray, List.set_cons_zero, List.set_cons_succ]
  refine wpAnyH_take (i := 3) (v := ?vd3) rfl (by kernel_rfl) (by kernel_rfl) (by kernel_rfl) (fun _ _ _ h => h) (Or.inl ⟨by rfl, ?hyd3⟩) (by assumption) ?restd3
  case hyd3 => (intro w hSw; (try dsimp only at hSw); go_simp; first | done | (with_reducible rfl))
  try simp only [Act.put, List.getElem_toArray, List.getElem_cons_zero, List.getElem_cons_succ, List.setIfInBounds_toArray, List.set_cons_zero, List.set_cons_succ]
  refine wpAnyH_take (i := 4) (v := ?vd4) rfl (by kernel_rfl) (by kernel_rfl) (by kernel_rfl) (fun _ _ _ h => h) (Or.inl ⟨by rfl, ?hyd4⟩) (by assumption) ?restd4
  case hyd4 => (intro w hSw; (try dsimp only at hSw); go_simp; first | done | (with_reducible rfl))
  try simp only [Act.put, List.getElem_toArray, List.getElem_cons_zero, List.getElem_cons_succ, List.setIfInBounds_toArray, List.set_cons_zero, List.set_cons_succ]
  refine wpAnyH_take (i := 5) (v := ?vd5) rfl (by kernel_rfl) (by kernel_rfl) (by kernel_rfl) (fun _ _ _ h => h) (Or.inl ⟨by rfl, ?hyd5⟩) (by assumption) ?restd5
  case hyd5 => (intro w hSw; (try dsimp only at hSw); go_simp; first | done | (with_reducible rfl))
  try simp only [Act.put, List.getElem_toArray, List.getElem_cons_zero, List.getElem_cons_succ, List.setIfInBounds_toArray, List.set_cons_zero, List.set_cons_succ]
  refine wpAnyH_take (i := 6) (v := ?vd6) rfl (by kernel_rfl) (by kernel_rfl) (by kernel_rfl) (fun _ _ _ h => h) (Or.inl ⟨by rfl, ?hyd6⟩) (by assumption) ?restd6
  case hyd6 => (intro w hSw; (try dsimp only at hSw); go_simp; first | done | (with_reducible rfl))
  try simp only [Act.put, List.getElem_toArray, List.getElem_cons_zero, List.getElem_cons_succ, List.setIfInBounds_toArray, List.set_cons_zero, List.set_cons_succ]
  refine wpAnyH_take (i := 7) (v := ?vd7) rfl (by kernel_rfl) (by kernel_rfl) (by kernel_rfl) (fun _ _ _ h => h) (Or.inl ⟨by rfl, ?hyd7⟩) (by assumption) ?restd7
  case hyd7 => (intro w hSw; (try dsimp only at hSw); go_simp; first | done | (with_reducible rfl))
  try simp only [Act.put, List.getElem_toArray, List.getElem_cons_zero, List.getElem_cons_succ, List.setIfInBounds_toArray, List.set_cons_zero, List.set_cons_succ]
  refine wpAnyH_take (i := 8) (v := ?vd8) rfl (by kernel_rfl) (by kernel_rfl) (by kernel_rfl) (fun _ _ _ h => h) (Or.inl ⟨by rfl, ?hyd8⟩) (by assumption) ?restd8
  case hyd8 => (intro w hSw; (try dsimp only at hSw); go_simp; first | done | (with_reducible rfl))
  try simp only [Act.put, List.getElem_toArray, List.getElem_cons_zero, List.getElem_cons_succ, List.setIfInBounds_toArray, List.set_cons_zero, List.set_cons_succ]
  refine wpAnyH_take (i := 9) (v := ?vd9) rfl (by kernel_rfl) (by kernel_rfl) (by kernel_rfl) (fun _ _ _ h => h) (Or.inl ⟨by rfl, ?hyd9⟩) (by assumption) ?restd9
  case hyd9 => (intro w hSw; (try dsimp only at hSw); go_simp; first | done | (with_reducible rfl))
  try simp only [Act.put, List.getElem_toArray, List.getElem_cons_zero, List.getElem_cons_succ, List.setIfInBounds_toArray, List.set_cons_zero, List.set_cons_succ]
  refine wpAnyH_take (i := 10) (v := ?vd10) rfl (by kernel_rfl) (by kernel_rfl) (by kernel_rfl) (fun _ _ _ h => h) (Or.inl ⟨by rfl, ?hyd10⟩) (by assumption) ?restd10
  case hyd10 => (intro w hSw; (try dsimp only at hSw); go_simp; first | done | (with_reducible rfl))
  try simp only [Act.put, List.getElem_toArray, List.getElem_cons_zero, List.getElem_cons_succ, List.setIfInBounds_toArray, List.set_cons_zero, List.set_cons_succ]
  refine wpAnyH_take (i := 11) (v := ?vd11) rfl (by kernel_rfl) (by kernel_rfl) (by kernel_rfl) (fun _ _ _ h => h) (Or.inl ⟨by rfl, ?hyd11⟩) (by assumption) ?restd11
  case hyd11 => (intro w hSw; (try dsimp only at hSw); go_simp; first | done | (with_reducible rfl))
  try simp only [Act.put, List.getElem_toArray, List.getElem_cons_zero, List.getElem_cons_succ, List.setIfInBounds_toArray, List.set_cons_zero, List.set_cons_succ]
  refine wpAnyH_take (i := 12) (v := ?vd12) rfl (by kernel_rfl) (by kernel_rfl) (by kernel_rfl) (fun _ _ _ h => h) (Or.inl ⟨by rfl, ?hyd12⟩) (by assumption) ?restd12
  case hyd12 => (intro w hSw; (try dsimp only at hSw); go_simp; first | done | (with_reducible rfl))
  try simp only [Act.put, List.getElem_toArray, List.getElem_cons_zero, List.getElem_cons_succ, List.setIfInBounds_toArray, List.set_cons_zero, List.set_cons_succ]
  refine wpAnyH_ready (rs := [13]) (by kernel_rfl) (by simp) ?_
  refine AllReadyH.cons rfl (fun K hK => ?_) AllReadyH.nil
  refine step_store_blk rfl 53 (.tmp 7) (.tmp 58) rfl (w.heap.size + 2) 53 #[.slice none 0 0, .slice none 0 0, .int .i64 0, .bool false] #[.slice A n c, .slice B m b, .int .i64 z, .bool fl] rfl rfl HB5.out.drew.res rfl size_disk (one_rv _ _ _ _ _ _ _ _) ?_
  intro W5 hx5 ht5 hs5
  have HX6 := hide hx5
  have HT5 := hide ht5
  have HR7 := hide (HB5.out.drew.ref.touch ht5 (by simp))
  clear hx5 ht5 hs5
  refine hK.out _ _ (⟨four_of HR7.out, run_string_bs (HV3.out.drew.touch HT5.out (fun j hj => by have h1 := HV1O.out j hj; have h2 := HB3.out.size; simp; omega)), run_string_bs (HV2.out.drew.touch HT5.out (fun j hj => by have h1 := (HV2L.out j hj).1; have h2 := HB4.out.size; simp; omega))⟩) (fun hS13 => ?_)
  clear hK K
  try simp only [Act.put, List.getElem_toArray, List.getElem_cons_zero, List.getElem_cons_succ, List.setIfInBounds_toArray, List.set_cons_zero, List.set_cons_succ]
  refine wpAnyH_take (i := 14) (v := ?vd14) rfl (by kernel_rfl) (by kernel_rfl) (by kernel_rfl) (fun _ _ _ h => h) (Or.inl ⟨by rfl, ?hyd14⟩) (by assumption) ?restd14
  case hyd14 => (intro w hSw; (try dsimp only at hSw); go_simp; first | done | (with_reducible rfl))
  try simp only [Act.put, List.getElem_toArray, List.getElem_cons_zero, List.getElem_cons_succ, List.setIfInBounds_toArray, List.set_cons_zero, List.set_cons_succ]
  refine wpAnyH_done (by kernel_rfl) ?_ _
  go_wp2_with fail
  refine bodyPost_ret (results_tmp_row_tmp rfl _ _ (w.heap.size + 2) 53 #[.slice A n c, .slice B m b, .int .i64 z, .bool fl] (0, 0) _ (.pointer (some ⟨d, 0, none⟩)) (.bool true) ?h1 rfl ?h2 ?h3 Try.underlying53 rfl size_disk) rfl ?hp
  case h1 => first | rfl | simp
  case h2 => first | rfl | simp
  case h3 => exact HX6.out
  case hp =>
    obtain ⟨h1, h2, h3, h4⟩ := step_fin (HD0.out.step (HBW.out.trans (HB2.out.mono HBW.out.size)).drew) ((HK0.out.step HB2.out).step (Below.refl _ _).drew) (Touch.below (HBW.out.trans (HB2.out.mono HBW.out.size)).drew F) (fun j hj => .inl hj) HLT.out HT5.out
    exact ⟨d, F, _, rfl, h1, ⟨_, _, vs, xs, by simp [rv, HZ.out, HFL.out], h2⟩, h3, h4⟩
end Go.Proofs.Ytlpnichgfhgdmaa
