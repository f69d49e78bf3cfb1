/- awake: the example returns true. -/
import Derived.Test.YtpbgelhjbfckcaaRecv
namespace Go.Proofs.Ytpbgelhjbfckcaa
open Go.ChangeShapes Go.WideShapes Go.ChangeAt Go.RowKit
set_option linter.unusedVariables false
set_option linter.unusedSimpArgs false

theorem opens_req (S : CS) (k g a c : Int) (b : ByteArray) (v : Int) : opens S (req k g a c b v) = req k g S.id (S.number + 1) b v := rfl
def bx : ByteArray := ⟨#[120]⟩
/-- The client of the example behind its first request. -/
def sA : CS := ⟨3, 2, 1, 1, some (req 1 1 3 1 bx 0)⟩
def sB : CS := ⟨3, 2, 2, 1, some (req 1 1 3 1 bx 0)⟩
def sC : CS := ⟨3, 2, 1, 1, none⟩
theorem ask_awake : cRequest (csNew 3 2) 1 bx = ⟨sA, .int .i64 1 :: req 1 1 3 1 bx 0, 0⟩ := by
  unfold cRequest
  rw [if_neg (by simp [csNew]), if_neg (by omega), if_neg (by decide)]
  rw [opens_req]
  unfold opened
  rw [opens_req]
  rfl
theorem ret_awake : cRetry sA = ⟨sB, .int .i64 2 :: req 1 1 3 1 bx 0, true⟩ := rfl
def mA : MV := ⟨2, 1, 3, 1, 17, ⟨#[]⟩, 101, zmsg.drop 7⟩
def mB : MV := ⟨2, 1, 3, 1, 0, ⟨#[]⟩, 0, zmsg.drop 7⟩
theorem mA_ok : mA.Ok := ⟨rfl, by simp [mA, zmsg, Value.oneCell'], by decide⟩
theorem mB_ok : mB.Ok := ⟨rfl, by simp [mB, zmsg, Value.oneCell'], by decide⟩
theorem built_mA : Try.prog.built 41 [(0, .int .i64 2), (1, .int .i64 1), (2, .int .i64 3), (3, .int .i64 1), (4, .int .i64 17), (6, .int .i64 101)] = some mA.cells.toArray := by kernel_rfl
def sA1 : CS := ⟨3, 2, 1, 1, some (req 1 1 3 1 bx 0)⟩
theorem recA (g : Nat) (p : Value) (w : World) (h : Cl w g sB p) :
    Calls Try.prog 16 #[.pointer (some ⟨g, 0, none⟩), .int .i64 2, .agg mA.cells.toArray] w (RecR w g ⟨sA, false, some (.int .i64 1 :: req 1 1 3 1 bx 0)⟩) := by
  have hh := recv_c g sB p 2 mA w h mA_ok 1 1 _ rfl (.inl rfl)
  rw [if_pos (by decide)] at hh
  have e : cAnswered sB (.int .i64 1 :: .int .i64 1 :: (req 1 1 3 1 bx 0).drop 2) mA 2 = ⟨sA, false, some (.int .i64 1 :: req 1 1 3 1 bx 0)⟩ := by
    unfold cAnswered
    rw [if_neg (by decide), if_pos (by decide)]
    rfl
  exact e ▸ hh
theorem recB (g : Nat) (p : Value) (w : World) (h : Cl w g sA p) :
    Calls Try.prog 16 #[.pointer (some ⟨g, 0, none⟩), .int .i64 1, .agg mB.cells.toArray] w (RecR w g ⟨sC, true, none⟩) := by
  have hh := recv_c g sA p 1 mB w h mB_ok 1 1 _ rfl (.inl rfl)
  rw [if_pos (by decide)] at hh
  have e : cAnswered sA (.int .i64 1 :: .int .i64 1 :: (req 1 1 3 1 bx 0).drop 2) mB 1 = ⟨sC, true, none⟩ := by
    unfold cAnswered
    rw [if_pos (by decide)]
    rfl
  exact e ▸ hh
theorem Cl.ptr_lt {w : World} {g : Nat} {S : CS} {p : Value} (h : Cl w g S p) {b : Nat} (hp : p = .pointer (some ⟨b, 0, none⟩)) : b < w.heap.size := by
  cases ho : S.opened with
  | none => rw [h.shut ho] at hp; cases hp
  | some cs =>
    obtain ⟨b', _, h2, h3⟩ := h.opened cs ho
    rw [h2] at hp
    injection hp with hp; injection hp with hp; injection hp with hp
    subst hp
    exact h3.lt
set_option maxRecDepth 100000 in
set_option maxHeartbeats 1000000 in
theorem awake_c (w : World) : Calls Try.prog 10 #[] w fun e w' => e = .returned (.bool true) ∧ Below w.heap.size w w' := by
  go_enter Try.func10, Try.ntmps10
  go_wp2_with fail
  refine (new_c 3 2 (by decide) (by decide) w).mono ?_
  rintro e w1 ⟨rfl, hc, hb⟩
  obtain ⟨g, hg⟩ : ∃ g, w.heap.size = g := ⟨_, rfl⟩
  have HG := hide hg
  rw [hg] at hc
  have HC := hide hc
  have HB := hide hb
  rw [hg]
  clear hc hb hg
  go_wp2_with fail
  refine (ask_awake ▸ request_c g (csNew 3 2) (.pointer none) 1 bx w1 HC.out (by decide) (by decide)).mono ?_
  rintro e w2 ⟨rfl, ⟨q2, hc⟩, ht⟩
  have HC2 := hide hc
  have HB2 := hide (Below.touch HB.out ht (by simp; exact Nat.le_of_eq HG.out) HB.out.size)
  have HT2 := hide ht
  clear hc ht
  dsimp only
  obtain ⟨L2, hL2⟩ : ∃ L, L = (.int .i64 1 :: req 1 1 3 1 bx 0) := ⟨_, rfl⟩
  rw [← hL2]
  have HLL2 : Hid (L2.length = 48) := hide (by rw [hL2]; rfl)
  have HLO2 : Hid (L2.toArray.all (·.oneCell') = true) := hide (by rw [hL2]; exact one_out (req_one _ _ _ _ _ _))
  have HLS2 : Hid ((Try.prog.info? 59).map (·.size) = some L2.toArray.size) := hide (by rw [hL2]; exact size_out rfl)
  have HLD2 := hide hL2
  clear hL2
  go_wp2_with (first
    | (refine wpList_alloc_blk rfl 59 rfl zout.toArray zout_info ?_; intro wa hx1 hb1 hs1; have HXA := hide hx1; have HBA := hide hb1; clear hx1 hb1 hs1)
    | (refine wpList_store_blk rfl 59 (.tmp 2) _ rfl w2.heap.size 59 zout.toArray L2.toArray rfl rfl HXA.out (by rw [List.size_toArray, List.size_toArray, HLL2.out, zout_len]) HLS2.out HLO2.out ?_; intro x2 hx2 ht2 hs2; have HX2 := hide hx2; have HS2 := hide (Below.touch (HBA.out) ht2 (by simp) HBA.out.size); clear HXA HBA hx2 ht2 hs2))
  have HCX := hide (HC2.out.step HS2.out)
  have HBX := hide (HB2.out.trans (HS2.out.mono HB2.out.size))
  refine (ret_awake ▸ retry_c g sA q2 x2 HCX.out).mono ?_
  rintro e w3 ⟨rfl, ⟨q3, hc⟩, ht⟩
  have HC3 := hide hc
  have HB3 := hide (Below.touch HBX.out ht (by simp; exact Nat.le_of_eq HG.out) HBX.out.size)
  have HT3 := hide ht
  clear hc ht
  dsimp only
  obtain ⟨L3, hL3⟩ : ∃ L, L = (.int .i64 2 :: req 1 1 3 1 bx 0) := ⟨_, rfl⟩
  rw [← hL3]
  have HLL3 : Hid (L3.length = 48) := hide (by rw [hL3]; rfl)
  have HLO3 : Hid (L3.toArray.all (·.oneCell') = true) := hide (by rw [hL3]; exact one_out (req_one _ _ _ _ _ _))
  have HLS3 : Hid ((Try.prog.info? 59).map (·.size) = some L3.toArray.size) := hide (by rw [hL3]; exact size_out rfl)
  have HLD3 := hide hL3
  clear hL3
  go_wp2_with (first
    | (refine wpList_alloc_blk rfl 59 rfl zout.toArray zout_info ?_; intro wa hx1 hb1 hs1; have HXA := hide hx1; have HBA := hide hb1; clear hx1 hb1 hs1)
    | (refine wpList_store_blk rfl 59 (.tmp 4) _ rfl w3.heap.size 59 zout.toArray L3.toArray rfl rfl HXA.out (by rw [List.size_toArray, List.size_toArray, HLL3.out, zout_len]) HLS3.out HLO3.out ?_; intro x3 hx2 ht2 hs2; have HX3 := hide hx2; have HS3 := hide (Below.touch (HBA.out) ht2 (by simp) HBA.out.size); have hY2 := (HX2.out.touch HT3.out (by simp only [List.mem_singleton]; exact fun e => Nat.lt_irrefl _ (e ▸ HC2.out.lt))).step HS3.out; have t2 := hY2.cell 0; have n2 := hY2.cell 4; have c2 := hY2.cell 3; have t3 := HX3.out.cell 0; rw [HLD2.out] at t2 n2 c2; rw [HLD3.out] at t3; unfold req at t2 n2 c2 t3; simp only [List.getElem?_toArray, List.getElem?_cons_zero, List.getElem?_cons_succ, List.cons_append] at t2 n2 c2 t3; have HC4 := hide (HC3.out.step HS3.out); have HB4 := hide (HB3.out.trans (HS3.out.mono HB3.out.size)); clear HXA HBA hx2 ht2 hs2 hY2)
    | (refine wpList_build rfl 41 _ rfl _ (by simp [Act.eval]; rfl) mA.cells.toArray built_mA ?_)
    | (refine wpList_alloc_blk rfl 41 rfl zmsgI.toArray zmsgI_info ?_; intro wm hx1 hb1 hs1; clear t2 n2 c2 t3; have HXM := hide hx1; have HBM := hide hb1; have HC5 := hide (HC4.out.step hb1); have HB5 := hide (HB4.out.trans (hb1.mono HB4.out.size)); clear hx1 hb1 hs1)
    | (refine wpList_store_blk rfl 41 (.tmp 6) _ rfl x3.heap.size 41 zmsgI.toArray mA.cells.toArray rfl rfl HXM.out (by rw [List.size_toArray, List.size_toArray, mA_ok.size, zmsgI_len]) (size_msg mA_ok.size) mA_ok.ones ?_; intro wn hx2 ht2 hs2; have HXN := hide hx2; have HCN := hide (HC5.out.far_of ht2 (by simp only [List.mem_singleton]; exact fun e => Nat.lt_irrefl _ (e ▸ HC4.out.lt)) (fun b hb => by simp only [List.mem_singleton]; exact fun e => Nat.lt_irrefl _ (e ▸ HC4.out.ptr_lt hb))); have HBN := hide (Below.touch HB5.out ht2 (by simp only [List.mem_singleton]; rintro _ rfl; exact HB4.out.size) HB5.out.size); clear HXM HBM HC5 HB5 hx2 ht2 hs2)
    | (refine wpList_load_blk rfl 41 (.tmp 6) rfl x3.heap.size 41 mA.cells.toArray _ rfl HXN.out Try.underlying41 rfl (size_msg mA_ok.size) ?_))
  refine (recA g q3 wn HCN.out).mono ?_
  rintro e w4 ⟨v4, rfl, ⟨b4, hb4, rfl, hbk, hbl⟩, ⟨q4, hc4⟩, ht4⟩
  have hxn := HXN.out.touch ht4 (by simp only [List.mem_singleton]; exact fun e => Nat.lt_irrefl _ (e ▸ HC4.out.lt))
  have k4 := hxn.cell 4
  have k6 := hxn.cell 6
  have kf4 := hxn.froz 4
  have kf6 := hxn.froz 6
  unfold mA MV.cells at k4 k6
  simp only [List.getElem?_toArray, List.getElem?_cons_zero, List.getElem?_cons_succ] at k4 k6
  have hyn := (hxn.put 4 (.int .i64 0)).put 6 (.int .i64 0)
  rw [show ((mA.cells.toArray.setIfInBounds 4 (.int .i64 0)).setIfInBounds 6 (.int .i64 0)) = mB.cells.toArray from by simp [mA, mB, MV.cells]] at hyn
  have HYN := hide hyn
  have HX4 : Hid (x3.heap.size < wn.heap.size) := hide HXN.out.lt
  have hc6 : Cl ((w4.setCell ⟨x3.heap.size, 4, none⟩ (.int .i64 0)).setCell ⟨x3.heap.size, 6, none⟩ (.int .i64 0)) g sA q4 :=
    hc4.far_of (((Touch.refl [x3.heap.size] w4).set (by simp) 4 _).set (by simp) 6 _) (by simp only [List.mem_singleton]; exact fun e => Nat.lt_irrefl _ (e ▸ HC4.out.lt)) (fun b hb => by
      obtain ⟨b', _, h2, h3⟩ := hc4.opened _ rfl
      have h2' := h2.symm.trans hb
      injection h2' with h2'; injection h2' with h2'; injection h2' with h2'
      subst h2'
      simp only [List.mem_singleton]
      rintro rfl
      unfold Blk at h3 hxn
      rw [hxn] at h3
      injection h3 with h3
      injection h3 with h3
      exact absurd (congrArg (fun a => a[4]?) h3) (by simp [mA, MV.cells, req]))
  have HC6 := hide hc6
  have hb6 : Below w.heap.size w ((w4.setCell ⟨x3.heap.size, 4, none⟩ (.int .i64 0)).setCell ⟨x3.heap.size, 6, none⟩ (.int .i64 0)) :=
    ((Below.touch HBN.out ht4 (by simp; exact Nat.le_of_eq HG.out) HBN.out.size).setCell (HB4.out.size) _).setCell (HB4.out.size) _
  have HB6 := hide hb6
  have HK4 : Hid (Blk ((w4.setCell ⟨x3.heap.size, 4, none⟩ (.int .i64 0)).setCell ⟨x3.heap.size, 6, none⟩ (.int .i64 0)) b4 59 (Value.int .i64 1 :: req 1 1 3 1 bx 0).toArray) := hide ((hbk.far (by show b4 ≠ x3.heap.size; exact fun e => Nat.lt_irrefl _ (Nat.lt_of_lt_of_le (e ▸ HX4.out) hb4)) _).far (by show b4 ≠ x3.heap.size; exact fun e => Nat.lt_irrefl _ (Nat.lt_of_lt_of_le (e ▸ HX4.out) hb4)) _)
  clear hbk hbl hb4 hc4 ht4 hxn hyn hc6 hb6
  dsimp only
  go_wp2_with (first
    | (refine wpList_load_blk rfl 41 (.tmp 6) rfl x3.heap.size 41 mB.cells.toArray _ rfl HYN.out Try.underlying41 rfl (size_msg mB_ok.size) ?_))
  refine (recB g q4 _ HC6.out).mono ?_
  rintro e w7 ⟨v7, rfl, hv7, ⟨q7, hc7⟩, ht7⟩
  have e7 : v7 = .slice none 0 0 := hv7
  subst e7
  have hk7 := HK4.out.touch ht7 (by
    simp only [List.mem_singleton]
    rintro rfl
    have h1 := HC6.out.blk
    have h2 := HK4.out
    unfold Blk at h1 h2
    rw [h1] at h2
    injection h2 with h2
    injection h2 with h2 h3
    exact absurd h3 (by decide))
  have t4 := hk7.cell 0
  simp only [List.getElem?_toArray, List.getElem?_cons_zero] at t4
  have HB7 := hide (Below.touch HB6.out ht7 (by simp; exact Nat.le_of_eq HG.out) HB6.out.size)
  clear hv7 hc7 ht7 hk7
  dsimp only
  go_wp2_with fail
  go_ret
  exact ⟨rfl, HB7.out⟩
end Go.Proofs.Ytpbgelhjbfckcaa
