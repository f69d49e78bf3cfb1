/- awake: the example returns true. -/
import Derived.Test.YtpbgelhjbfckcaaT22
import Derived.Test.YtpbgelhjbfckcaaT18
import Derived.Test.YtpbgelhjbfckcaaT02
import Derived.Test.YtpbgelhjbfckcaaT20
namespace Go.Proofs.Ytpbgelhjbfckcaa
open Go.ChangeShapes Go.WideShapes Go.ChangeAt Go.RowKit
set_option linter.unusedVariables false
set_option linter.unusedSimpArgs false

theorem opens_req (S : CS) (k g a c : Int) (b : ByteArray) (v : Int) : opens S (req k g a c b v) = req k g S.id (S.number + 1) b v := rfl
def bx : ByteArray := ⟨#[120]⟩
/-- The client of the example behind its first request. -/
def sA : CS := ⟨3, 2, 1, 1, some (req 1 1 3 1 bx 0)⟩
def sB : CS := ⟨3, 2, 2, 1, some (req 1 1 3 1 bx 0)⟩
def sC : CS := ⟨3, 2, 1, 1, none⟩
theorem ask_awake : cRequest (csNew 3 2) 1 bx = ⟨sA, .int .i64 1 :: req 1 1 3 1 bx 0, 0⟩ := by
  unfold cRequest
  rw [if_neg (by simp [csNew]), if_neg (by omega), if_neg (by decide)]
  rw [opens_req]
  unfold opened
  rw [opens_req]
  rfl
theorem ret_awake : cRetry sA = ⟨sB, .int .i64 2 :: req 1 1 3 1 bx 0, true⟩ := rfl
def mA : MV := ⟨2, 1, 3, 1, 17, ⟨#[]⟩, 101, zmsg.drop 7⟩
def mB : MV := ⟨2, 1, 3, 1, 0, ⟨#[]⟩, 0, zmsg.drop 7⟩
theorem mA_ok : mA.Ok := ⟨rfl, by simp [mA, zmsg, Value.oneCell'], by decide⟩
theorem mB_ok : mB.Ok := ⟨rfl, by simp [mB, zmsg, Value.oneCell'], by decide⟩
theorem built_mA : Try.prog.built 41 [(0, .int .i64 2), (1, .int .i64 1), (2, .int .i64 3), (3, .int .i64 1), (4, .int .i64 17), (6, .int .i64 101)] = some mA.cells.toArray := by kernel_rfl
def sA1 : CS := ⟨3, 2, 1, 1, some (req 1 1 3 1 bx 0)⟩
theorem recA (g : Nat) (p : Value) (w : World) (h : Cl w g sB p) :
    Calls Try.prog 16 #[.pointer (some ⟨g, 0, none⟩), .int .i64 2, .agg mA.cells.toArray] w (RecR w g ⟨sA, false, some (.int .i64 1 :: req 1 1 3 1 bx 0)⟩) := by
  have hh := recv_c g sB p 2 mA w h mA_ok 1 1 _ rfl (.inl rfl)
  rw [if_pos (by decide)] at hh
  have e : cAnswered sB (.int .i64 1 :: .int .i64 1 :: (req 1 1 3 1 bx 0).drop 2) mA 2 = ⟨sA, false, some (.int .i64 1 :: req 1 1 3 1 bx 0)⟩ := by
    unfold cAnswered
    rw [if_neg (by decide), if_pos (by decide)]
    rfl
  exact e ▸ hh
theorem recB (g : Nat) (p : Value) (w : World) (h : Cl w g sA p) :
    Calls Try.prog 16 #[.pointer (some ⟨g, 0, none⟩), .int .i64 1, .agg mB.cells.toArray] w (RecR w g ⟨sC, true, none⟩) := by
  have hh := recv_c g sA p 1 mB w h mB_ok 1 1 _ rfl (.inl rfl)
  rw [if_pos (by decide)] at hh
  have e : cAnswered sA (.int .i64 1 :: .int .i64 1 :: (req 1 1 3 1 bx 0).drop 2) mB 1 = ⟨sC, true, none⟩ := by
    unfold cAnswered
    rw [if_pos (by decide)]
    rfl
  exact e ▸ hh
theorem Cl.ptr_lt {w : World} {g : Nat} {S : CS} {p : Value} (h : Cl w g S p) {b : Nat} (hp : p = .pointer (some ⟨b, 0, none⟩)) : b < w.heap.size := by
  cases ho : S.opened with
  | none => rw [h.shut ho] at hp; cases hp
  | some cs =>
    obtain ⟨b', _, h2, h3⟩ := h.opened cs ho
    rw [h2] at hp
    injection hp with hp; injection hp with hp; injection hp with hp
    subst hp
    exact h3.lt
set_option maxRecDepth 100000 in
set_option maxHeartbeats 1000000 in
theorem awake_c (w : World) : Calls Try.prog 10 #[] w fun e w' => e = .returned (.bool true) ∧ Below w.heap.size w w' := by
  go_enter Try.func10, Try.ntmps10
  go_wp2_with fail
  refine (new_c 3 2 (by decide) (by decide) w).mono ?_
  rintro e w1 ⟨rfl, hc, hb⟩
  obtain ⟨g, hg⟩ : ∃ g, w.heap.size = g := ⟨_, rfl⟩
  have HG := hide hg
  rw [hg] at hc
  have HC := hide hc
  have HB := hide hb
  rw [hg]
  clear hc hb hg
  go_wp2_with fail
  refine (ask_awake ▸ request_c g (csNew 3 2) (.pointer none) 1 bx w1 HC.out (by decide) (by decide)).mono ?_
  rintro e w2 ⟨rfl, ⟨q2, hc⟩, ht⟩
  have HC2 := hide hc
  have HB2 := hide (Below.touch HB.out ht (by simp; exact Nat.le_of_eq HG.out) HB.out.size)
  have HT2 := hide ht
  clear hc ht
  dsimp only
  obtain ⟨L2, hL2⟩ : ∃ L, L = (.int .i64 1 :: req 1 1 3 1 bx 0) := ⟨_, rfl⟩
  rw [← hL2]
  have HLL2 : Hid (L2.length = 48) := hide (by rw [hL2]; rfl)
  have HLO2 : Hid (L2.toArray.all (·.oneCell') = true) := hide (by rw [hL2]; exact one_out (req_one _ _ _ _ _ _))
  have HLS2 : Hid ((Try.prog.info? 59).map (·.size) = some L2.toArray.size) := hide (by rw [hL2]; exact size_out rfl)
  have HLD2 := hide hL2
  clear hL2
  go_wp2_with (first
    | (refine wpList_alloc_blk rfl 59 rfl zout.toArray zout_info ?_; intro wa hx1 hb1 hs1; have HXA := hide hx1; have HBA := hide hb1; clear hx1 hb1 hs1)
    | (refine wpList_store_blk rfl 59 (.tmp 2) _ rfl w2.heap.size 59 zout.toArray L2.toArray rfl rfl HXA.out (by rw [List.size_toArray, List.size_toArray, HLL2.out, zout_len]) HLS2.out HLO2.out ?_; intro x2 hx2 ht2 hs2; have HX2 := hide hx2; have HS2 := hide (Below.touch (HBA.out) ht2 (by simp) HBA.out.size); clear HXA HBA hx2 ht2 hs2))
  have HCX := hide (HC2.out.step HS2.out)
  have HBX := hide (HB2.out.trans (HS2.out.mono HB2.out.size))
  refine (ret_awake ▸ retry_c g sA q2 x2 HCX.out).mono ?_
  rintro e w3 ⟨rfl, ⟨q3, hc⟩, ht⟩
  have HC3 := hide hc
  have HB3 := hide (Below.touch HBX.out ht (by simp; exact Nat.le_of_eq HG.out) HBX.out.size)
  have HT3 := hide ht
  clear hc ht
  dsimp only
  obtain ⟨L3, hL3⟩ : ∃ L, L = (.int .i64 2 :: req 1 1 3 1 bx 0) := ⟨_, rfl⟩
  rw [← hL3]
  have HLL3 : Hid (L3.length = 48) := hide (by rw [hL3]; rfl)
  have HLO3 : Hid (L3.toArray.all (·.oneCell') = true) := hide (by rw [hL3]; exact one_out (req_one _ _ _ _ _ _))
  have HLS3 : Hid ((Try.prog.info? 59).map (·.size) = some L3.toArray.size) := hide (by rw [hL3]; exact size_out rfl)
  have HLD3 := hide hL3
  clear hL3
  go_wp2_with (first
    | (refine wpList_alloc_blk rfl 59 rfl zout.toArray zout_info ?_; intro wa hx1 hb1 hs1; have HXA := hide hx1; have HBA := hide hb1; clear hx1 hb1 hs1)
    | (refine wpList_store_blk rfl 59 (.tmp 4) _ rfl w3.heap.size 59 zout.toArray L3.toArray rfl rfl HXA.out (by rw [List.size_toArray, List.size_toArray, HLL3.out, zout_len]) HLS3.out HLO3.out ?_; intro x3 hx2 ht2 hs2; have HX3 := hide hx2; have HS3 := hide (Below.touch (HBA.out) ht2 (by simp) HBA.out.size); have hY2 := (HX2.out.touch HT3.out (by simp only [List.mem_singleton]; exact fun e => Nat.lt_irrefl _ (e ▸ HC2.out.lt))).step HS3.out; have t2 := hY2.cell 0; have n2 := hY2.cell 4; have c2 := hY2.cell 3; have t3 := HX3.out.cell 0; rw [HLD2.out] at t2 n2 c2; rw [HLD3.out] at t3; unfold req at t2 n2 c2 t3; simp only [List.getElem?_toArray, List.getElem?_cons_zero, List.getElem?_cons_succ, List.cons_append] at t2 n2 c2 t3; have HC4 := hide (HC3.out.step HS3.out); have HB4 := hide (HB3.out.trans (HS3.out.mono HB3.out.size)); clear HXA HBA hx2 ht2 hs2 hY2)
    | (refine wpList_build rfl 41 _ rfl _ (by simp [Act.eval]; rfl) mA.cells.toArray built_mA ?_)
    | (refine wpList_alloc_blk rfl 41 rfl zmsgI.toArray zmsgI_info ?_; intro wm hx1 hb1 hs1; clear t2 n2 c2 t3; have HXM := hide hx1; have HBM := hide hb1; have HC5 := hide (HC4.out.step hb1); have HB5 := hide (HB4.out.trans (hb1.mono HB4.out.size)); clear hx1 hb1 hs1)
    | (refine wpList_store_blk rfl 41 (.tmp 6) _ rfl x3.heap.size 41 zmsgI.toArray mA.cells.toArray rfl rfl HXM.out (by rw [List.size_toArray, List.size_toArray, mA_ok.size, zmsgI_len]) (size_msg mA_ok.size) mA_ok.ones ?_; intro wn hx2 ht2 hs2; have HXN := hide hx2; have HCN := hide (HC5.out.far_of ht2 (by simp only [List.mem_singleton]; exact fun e => Nat.lt_irrefl _ (e ▸ HC4.out.lt)) (fun b hb => by simp only [List.mem_singleton]; exact fun e => Nat.lt_irrefl _ (e ▸ HC4.out.ptr_lt hb))); have HBN := hide (Below.touch HB5.out ht2 (by simp only [List.mem_singleton]; rintro _ rfl; exact HB4.out.size) HB5.out.size); clear HXM HBM HC5 HB5 hx2 ht2 hs2)
    | (refine wpList_load_blk rfl 41 (.tmp 6) rfl x3.heap.size 41 mA.cells.toArray _ rfl HXN.out Try.underlying41 rfl (size_msg mA_ok.size) ?_))
  refine (recA g q3 wn HCN.out).mono ?_
  rintro e w4 ⟨v4, rfl, ⟨b4, hb4, rfl, hbk, hbl⟩, ⟨q4, hc4⟩, ht4⟩
  have hxn := HXN.out.touch ht4 (by simp only [List.mem_singleton]; exact fun e => Nat.lt_irrefl _ (e ▸ HC4.out.lt))
  have k4 := hxn.cell 4
  have k6 := hxn.cell 6
  have kf4 := hxn.froz 4
  have kf6 := hxn.froz 6
  unfold mA MV.cells at k4 k6
  simp only [List.getElem?_toArray, List.getElem?_cons_zero, List.getElem?_cons_succ] at k4 k6
  have hyn := (hxn.put 4 (.int .i64 0)).put 6 (.int .i64 0)
  rw [show ((mA.cells.toArray.setIfInBounds 4 (.int .i64 0)).setIfInBounds 6 (.int .i64 0)) = mB.cells.toArray from by simp [mA, mB, MV.cells]] at hyn
  have HYN := hide hyn
  have HX4 : Hid (x3.heap.size < wn.heap.size) := hide HXN.out.lt
  have hc6 : Cl ((w4.setCell ⟨x3.heap.size, 4, none⟩ (.int .i64 0)).setCell ⟨x3.heap.size, 6, none⟩ (.int .i64 0)) g sA q4 :=
    hc4.far_of (((Touch.refl [x3.heap.size] w4).set (by simp) 4 _).set (by simp) 6 _) (by simp only [List.mem_singleton]; exact fun e => Nat.lt_irrefl _ (e ▸ HC4.out.lt)) (fun b hb => by
      obtain ⟨b', _, h2, h3⟩ := hc4.opened _ rfl
      have h2' := h2.symm.trans hb
      injection h2' with h2'; injection h2' with h2'; injection h2' with h2'
      subst h2'
      simp only [List.mem_singleton]
      rintro rfl
      unfold Blk at h3 hxn
      rw [hxn] at h3
      injection h3 with h3
      injection h3 with h3
      exact absurd (congrArg (fun a => a[4]?) h3) (by simp [mA, MV.cells, req]))
  have HC6 := hide hc6
  have hb6 : Below w.heap.size w ((w4.setCell ⟨x3.heap.size, 4, none⟩ (.int .i64 0)).setCell ⟨x3.heap.size, 6, none⟩ (.int .i64 0)) :=
    ((Below.touch HBN.out ht4 (by simp; exact Nat.le_of_eq HG.out) HBN.out.size).setCell (HB4.out.size) _).setCell (HB4.out.size) _
  have HB6 := hide hb6
  have HK4 : Hid (Blk ((w4.setCell ⟨x3.heap.size, 4, none⟩ (.int .i64 0)).setCell ⟨x3.heap.size, 6, none⟩ (.int .i64 0)) b4 59 (Value.int .i64 1 :: req 1 1 3 1 bx 0).toArray) := hide ((hbk.far (by show b4 ≠ x3.heap.size; exact fun e => Nat.lt_irrefl _ (Nat.lt_of_lt_of_le (e ▸ HX4.out) hb4)) _).far (by show b4 ≠ x3.heap.size; exact fun e => Nat.lt_irrefl _ (Nat.lt_of_lt_of_le (e ▸ HX4.out) hb4)) _)
  clear hbk hbl hb4 hc4 ht4 hxn hyn hc6 hb6
  dsimp only
  go_wp2_with (first
    | (refine wpList_load_blk rfl 41 (.tmp 6) rfl x3.heap.size 41 mB.cells.toArray _ rfl HYN.out Try.underlying41 rfl (size_msg mB_ok.size) ?_))
  refine (recB g q4 _ HC6.out).mono ?_
  rintro e w7 ⟨v7, rfl, hv7, ⟨q7, hc7⟩, ht7⟩
  have e7 : v7 = .slice none 0 0 := hv7
  subst e7
  have hk7 := HK4.out.touch ht7 (by
    simp only [List.mem_singleton]
    rintro rfl
    have h1 := HC6.out.blk
    have h2 := HK4.out
    unfold Blk at h1 h2
    rw [h1] at h2
    injection h2 with h2
    injection h2 with h2 h3
    exact absurd h3 (by decide))
  have t4 := hk7.cell 0
  simp only [List.getElem?_toArray, List.getElem?_cons_zero] at t4
  have HB7 := hide (Below.touch HB6.out ht7 (by simp; exact Nat.le_of_eq HG.out) HB6.out.size)
  clear hv7 hc7 ht7 hk7
  dsimp only
  go_wp2_with fail
  go_ret
  exact ⟨rfl, HB7.out⟩
end Go.Proofs.Ytpbgelhjbfckcaa
/- The reference: New, begin. -/
namespace Go.Proofs.Ytpbgelhjbfckcaa
open Go.ChangeShapes Go.WideShapes Go.ChangeAt Go.RowKit
set_option linter.unusedVariables false
set_option linter.unusedSimpArgs false

/-- The cells of the reference's client. -/
abbrev rcl (i m T n : Int) (o : Bool) (cs : List Value) : List Value := .int .i64 i :: .int .i64 m :: .int .i64 T :: .int .i64 n :: .bool o :: cs
/-- Those of a client's state. -/
def rC (S : CS) : List Value := rcl S.id S.machines S.target S.number S.opened.isSome (openOf S).1
@[irreducible] def zrc : List Value := rcl 0 0 0 0 false zmsg
theorem zrc_def : zrc = rcl 0 0 0 0 false zmsg := by unfold zrc; rfl
theorem zrc_len : zrc.length = 52 := by rw [zrc_def]; rfl
theorem info_rc : (Try.prog.info? 46).map (fun i => (i.zero, i.size)) = some (some (.agg (rcl 0 0 0 0 false zmsg).toArray), 52) := by kernel_rfl
theorem zrc_info : (Try.prog.info? 46).map (·.zero) = some (some (.agg zrc.toArray)) := by
  have h := congrArg (Option.map Prod.fst) info_rc
  rw [Option.map_map] at h
  rw [zrc_def]
  exact h
theorem rc_size {cs : List Value} (h : cs.length = 52) : (Try.prog.info? 46).map (·.size) = some cs.length := by rw [h]; kernel_rfl
theorem out_size {cs : List Value} (h : cs.length = 48) : (Try.prog.info? 59).map (·.size) = some cs.length := by rw [h]; kernel_rfl
theorem msg_size {cs : List Value} (h : cs.length = 47) : (Try.prog.info? 41).map (·.size) = some cs.length := by rw [h]; kernel_rfl
theorem int_size {v : Value} : (Try.prog.info? 3).map (·.size) = some [v].length := by kernel_rfl
theorem bool_size {v : Value} : (Try.prog.info? 4).map (·.size) = some [v].length := by kernel_rfl
theorem rcl_len {i m T n : Int} {o : Bool} {cs : List Value} (h : cs.length = 47) : (rcl i m T n o cs).length = 52 := by simp [h]
theorem rcl_ones {i m T n : Int} {o : Bool} {cs : List Value} (h : cs.all (·.oneCell') = true) : (rcl i m T n o cs).all (·.oneCell') = true := by simpa [Value.oneCell'] using h
theorem out_ones {T : Int} {cs : List Value} (h : cs.all (·.oneCell') = true) : (Value.int .i64 T :: cs).all (·.oneCell') = true := by simpa [Value.oneCell'] using h
theorem zout_ones : zout.all (·.oneCell') = true := by have := zout_one; simpa using this
theorem built_rnew (a b : Int) : Try.prog.built 46 [(0, .int .i64 a), (1, .int .i64 b), (2, .int .i64 1)] = some (rcl a b 1 0 false zmsg).toArray := by kernel_rfl
/-- Handed back, and nothing that was there has turned. -/
def Hands (w : World) (v : Value) (e : Ending) (w' : World) : Prop := e = .returned v ∧ Below w.heap.size w w'

set_option maxRecDepth 100000 in
set_option maxHeartbeats 1000000 in
theorem rnew_c (a b : Int) (w : World) : Calls Try.prog 19 #[.int .i64 a, .int .i64 b] w (Hands w (.agg (rcl a b 1 0 false zmsg).toArray)) := by
  have HO := hide (Own.nil w [] (by simp))
  have HL : Hid ((rcl a b 1 0 false zmsg).length = 52) := hide rfl
  have HON : Hid ((rcl a b 1 0 false zmsg).all (·.oneCell') = true) := hide (by simp [zmsg, Value.oneCell'])
  have HBU := hide (built_rnew a b)
  generalize rcl a b 1 0 false zmsg = R at *
  go_enter Try.func19, Try.ntmps19
  go_wp2_with (first
    | (refine wpList_alloc_own HO.out rfl 46 rfl (zrc) zrc_info ?_; intro WA b0 hO; replace HO := hide hO; clear hO)
    | (refine wpList_build rfl 46 _ rfl ([(0, .int .i64 a), (1, .int .i64 b), (2, .int .i64 1)]) (by first | (simp [Act.eval]; done) | (simp [Act.eval]; rfl)) (R).toArray HBU.out ?_)
    | (refine wpList_store_own HO.out rfl 46 (.tmp 4) (.tmp 7) rfl 0 _ 0 _ _ (R) (R) rfl (.agg (R).toArray) rfl rfl (fits_agg _) (by rw [HL.out, zrc_len]; exact Nat.le_refl _) (splice_all (by rw [HL.out, zrc_len])) (rc_size HL.out) HON.out ?_; intro WA hO; replace HO := hide hO; clear hO))
  refine bodyPost_ret (results_row rfl _ HO.out 0 _ _ _ _ rfl rfl Try.underlying46 rfl (rc_size HL.out)) rfl ?_
  exact ⟨rfl, HO.out.below⟩

theorem splice5 {a0 a1 a2 a3 a4 : Value} {cs vs : List Value} (h : cs.length = vs.length) : (a0 :: a1 :: a2 :: a3 :: a4 :: cs).take 5 ++ vs ++ (a0 :: a1 :: a2 :: a3 :: a4 :: cs).drop (5 + vs.length) = a0 :: a1 :: a2 :: a3 :: a4 :: vs := by
  rw [List.drop_eq_nil_of_le (by simp <;> omega)]
  simp
set_option maxRecDepth 100000 in
set_option maxHeartbeats 1000000 in
theorem rbegin_c (i m T n : Int) (o : Bool) (cs rs : List Value) (va vb vc vd : Value) (h0 : 0 ≤ n) (h1 : n < 1000000) (hcs : cs.length = 47) (hrs : rs.length = 43) (h1c : cs.all (·.oneCell') = true) (h1m : (va :: vb :: vc :: vd :: rs).all (·.oneCell') = true) (w : World) :
    Calls Try.prog 50 #[.agg (rcl i m T n o cs).toArray, .agg (va :: vb :: vc :: vd :: rs).toArray] w (Hands w (.tuple #[.agg (rcl i m T (n + 1) true (va :: vb :: .int .i64 i :: .int .i64 (n + 1) :: rs)).toArray, .agg (.int .i64 T :: va :: vb :: .int .i64 i :: .int .i64 (n + 1) :: rs).toArray])) := by
  have HO := hide (Own.nil w [] (by simp))
  have HM2 : Hid ((va :: vb :: .int .i64 i :: .int .i64 (n + 1) :: rs).all (·.oneCell') = true) := hide (by
    simp only [List.all_cons, Bool.and_eq_true] at h1m ⊢
    exact ⟨h1m.1, h1m.2.1, rfl, rfl, h1m.2.2.2.2⟩)
  go_enter Try.func50, Try.ntmps50
  go_wp2_with (first
    | (refine wpList_box_own HO.out rfl 46 (.tmp 0) rfl (rcl i m T n o cs) rfl ?_; intro WA b0 hO; replace HO := hide hO; clear hO)
    | (refine wpList_box_own HO.out rfl 41 (.tmp 1) rfl (va :: vb :: vc :: vd :: rs) rfl ?_; intro WA b1 hO; replace HO := hide hO; clear hO)
    | (refine wpList_alloc_own HO.out rfl 46 rfl (zrc) zrc_info ?_; intro WA b2 hO; replace HO := hide hO; clear hO)
    | (refine wpList_alloc_own HO.out rfl 59 rfl zout zout_info ?_; intro WA b3 hO; replace HO := hide hO; have k0 := hO.cells 0 rfl; clear hO)
    | (refine wpList_store_own HO.out rfl 3 (.tmp 9) (.tmp 8) rfl 0 _ 3 _ _ ([.int .i64 (n + 1)]) (rcl i m T (n + 1) o cs) rfl (.int .i64 (n + 1)) rfl rfl (fits_one rfl) (by simp <;> omega) rfl int_size rfl ?_; intro WA hO; replace HO := hide hO; clear hO))
  clear k0
  refine wp_region_held_drew (S := fun W => (∀ j, W.cell? ⟨b0, j, none⟩ = (rcl i m T (n + 1) o cs : List Value)[j]?)) (by kernel_rfl) (HO.out.drew.cells 0 rfl) (fun hS0 => ?_)
  replace HO := hide HO.out.drew
  refine wpAnyH_take (i := 0) (v := ?vx0) rfl (by kernel_rfl) (by kernel_rfl) (by kernel_rfl) (fun _ _ _ h => h) (Or.inl ⟨by rfl, ?hyx0⟩) (by assumption) ?restx0
  case hyx0 => (intro w hSw; (try dsimp only at hSw); go_simp; first | done | (with_reducible rfl))
  try simp only [Act.put, List.getElem_toArray, List.getElem_cons_zero, List.getElem_cons_succ, List.setIfInBounds_toArray, List.set_cons_zero, List.set_cons_succ]
  refine wpAnyH_take (i := 1) (v := ?vx1) rfl (by kernel_rfl) (by kernel_rfl) (by kernel_rfl) (fun _ _ _ h => h) (Or.inl ⟨by rfl, ?hyx1⟩) (by assumption) ?restx1
  case hyx1 => (intro w hSw; (try dsimp only at hSw); go_simp; first | done | (with_reducible rfl))
  try simp only [Act.put, List.getElem_toArray, List.getElem_cons_zero, List.getElem_cons_succ, List.setIfInBounds_toArray, List.set_cons_zero, List.set_cons_succ]
  refine wpAnyH_take (i := 2) (v := ?vx2) rfl (by kernel_rfl) (by kernel_rfl) (by kernel_rfl) (fun _ _ _ h => h) (Or.inl ⟨by rfl, ?hyx2⟩) (by assumption) ?restx2
  case hyx2 => (intro w hSw; (try dsimp only at hSw); go_simp; first | done | (with_reducible rfl))
  try simp only [Act.put, List.getElem_toArray, List.getElem_cons_zero, List.getElem_cons_succ, List.setIfInBounds_toArray, List.set_cons_zero, List.set_cons_succ]
  refine wpAnyH_take (i := 3) (v := ?vx3) rfl (by kernel_rfl) (by kernel_rfl) (by kernel_rfl) (fun _ _ _ h => h) (Or.inl ⟨by rfl, ?hyx3⟩) (by assumption) ?restx3
  case hyx3 => (intro w hSw; (try dsimp only at hSw); go_simp; first | done | (with_reducible rfl))
  try simp only [Act.put, List.getElem_toArray, List.getElem_cons_zero, List.getElem_cons_succ, List.setIfInBounds_toArray, List.set_cons_zero, List.set_cons_succ]
  refine wpAnyH_take (i := 4) (v := ?vx4) rfl (by kernel_rfl) (by kernel_rfl) (by kernel_rfl) (fun _ _ _ h => h) (Or.inl ⟨by rfl, ?hyx4⟩) (by assumption) ?restx4
  case hyx4 => (intro w hSw; (try dsimp only at hSw); go_simp; first | done | (with_reducible rfl))
  try simp only [Act.put, List.getElem_toArray, List.getElem_cons_zero, List.getElem_cons_succ, List.setIfInBounds_toArray, List.set_cons_zero, List.set_cons_succ]
  refine wpAnyH_ready (rs := [5]) (by kernel_rfl) (by simp) ?_
  refine AllReadyH.cons rfl (fun K hK => ?_) AllReadyH.nil
  refine step_store_own HO.out rfl 3 (.tmp 14) (.tmp 11) rfl 1 _ 2 _ _ ([.int .i64 i]) (va :: vb :: .int .i64 i :: vd :: rs) rfl (.int .i64 i) rfl rfl (fits_one rfl) (by simp <;> omega) rfl int_size rfl ?_
  intro WA hO
  replace HO := hide hO
  clear hO
  refine hK.out _ _ (HO.out.cells 0 rfl) (fun hS5 => ?_)
  clear hK K
  try simp only [Act.put, List.getElem_toArray, List.getElem_cons_zero, List.getElem_cons_succ, List.setIfInBounds_toArray, List.set_cons_zero, List.set_cons_succ]
  refine wpAnyH_take (i := 6) (v := ?vx6) rfl (by kernel_rfl) (by kernel_rfl) (by kernel_rfl) (fun _ _ _ h => h) (Or.inl ⟨by rfl, ?hyx6⟩) (by assumption) ?restx6
  case hyx6 => (intro w hSw; (try dsimp only at hSw); go_simp; first | done | (with_reducible rfl))
  try simp only [Act.put, List.getElem_toArray, List.getElem_cons_zero, List.getElem_cons_succ, List.setIfInBounds_toArray, List.set_cons_zero, List.set_cons_succ]
  refine wpAnyH_ready (rs := [7]) (by kernel_rfl) (by simp) ?_
  refine AllReadyH.cons rfl (fun K hK => ?_) AllReadyH.nil
  refine step_store_own HO.out rfl 3 (.tmp 15) (.tmp 13) rfl 1 _ 3 _ _ ([.int .i64 (n + 1)]) (va :: vb :: .int .i64 i :: .int .i64 (n + 1) :: rs) rfl (.int .i64 (n + 1)) rfl rfl (fits_one rfl) (by simp <;> omega) rfl int_size rfl ?_
  intro WA hO
  replace HO := hide hO
  clear hO
  refine hK.out _ _ (HO.out.cells 0 rfl) (fun hS7 => ?_)
  clear hK K
  try simp only [Act.put, List.getElem_toArray, List.getElem_cons_zero, List.getElem_cons_succ, List.setIfInBounds_toArray, List.set_cons_zero, List.set_cons_succ]
  refine wpAnyH_done (by kernel_rfl) ?_ _
  clear hS0
  go_wp2_with fail
  refine wp_region_held_drew (S := fun W => (∀ j, W.cell? ⟨b1, j, none⟩ = (va :: vb :: .int .i64 i :: .int .i64 (n + 1) :: rs : List Value)[j]?)) (by kernel_rfl) (HO.out.drew.cells 1 rfl) (fun hS0 => ?_)
  replace HO := hide HO.out.drew
  refine wpAnyH_take (i := 0) (v := .agg (va :: vb :: .int .i64 i :: .int .i64 (n + 1) :: rs).toArray) rfl (by kernel_rfl) (by kernel_rfl) (by kernel_rfl) (fun _ _ _ h => h) (yieldsIf_load rfl 41 (.tmp 3) rfl b1 0 47 41 (va :: vb :: .int .i64 i :: .int .i64 (n + 1) :: rs) (va :: vb :: .int .i64 i :: .int .i64 (n + 1) :: rs) _ (fun w hw => hw) (take_all (by simp <;> omega)) rfl Try.underlying41 rfl (msg_size (by simp <;> omega))) (by assumption) ?_
  try simp only [Act.put, List.getElem_toArray, List.getElem_cons_zero, List.getElem_cons_succ, List.setIfInBounds_toArray, List.set_cons_zero, List.set_cons_succ]
  refine wpAnyH_take (i := 1) (v := ?vy1) rfl (by kernel_rfl) (by kernel_rfl) (by kernel_rfl) (fun _ _ _ h => h) (Or.inl ⟨by rfl, ?hyy1⟩) (by assumption) ?resty1
  case hyy1 => (intro w hSw; (try dsimp only at hSw); go_simp; first | done | (with_reducible rfl))
  try simp only [Act.put, List.getElem_toArray, List.getElem_cons_zero, List.getElem_cons_succ, List.setIfInBounds_toArray, List.set_cons_zero, List.set_cons_succ]
  refine wpAnyH_ready (rs := [2]) (by kernel_rfl) (by simp) ?_
  refine AllReadyH.cons rfl (fun K hK => ?_) AllReadyH.nil
  refine step_store_own HO.out rfl 4 (.tmp 17) _ rfl 0 _ 4 _ _ ([.bool true]) (rcl i m T (n + 1) true cs) rfl (.bool true) rfl rfl (fits_one rfl) (by simp <;> omega) rfl bool_size rfl ?_
  intro WA hO
  replace HO := hide hO
  clear hO
  refine hK.out _ _ (HO.out.cells 1 rfl) (fun hS2 => ?_)
  clear hK K
  try simp only [Act.put, List.getElem_toArray, List.getElem_cons_zero, List.getElem_cons_succ, List.setIfInBounds_toArray, List.set_cons_zero, List.set_cons_succ]
  refine wpAnyH_take (i := 3) (v := ?vy3) rfl (by kernel_rfl) (by kernel_rfl) (by kernel_rfl) (fun _ _ _ h => h) (Or.inl ⟨by rfl, ?hyy3⟩) (by assumption) ?resty3
  case hyy3 => (intro w hSw; (try dsimp only at hSw); go_simp; first | done | (with_reducible rfl))
  try simp only [Act.put, List.getElem_toArray, List.getElem_cons_zero, List.getElem_cons_succ, List.setIfInBounds_toArray, List.set_cons_zero, List.set_cons_succ]
  refine wpAnyH_ready (rs := [4]) (by kernel_rfl) (by simp) ?_
  refine AllReadyH.cons rfl (fun K hK => ?_) AllReadyH.nil
  refine step_store_own HO.out rfl 41 (.tmp 18) (.tmp 16) rfl 0 _ 5 _ _ (va :: vb :: .int .i64 i :: .int .i64 (n + 1) :: rs) (rcl i m T (n + 1) true (va :: vb :: .int .i64 i :: .int .i64 (n + 1) :: rs)) rfl (.agg (va :: vb :: .int .i64 i :: .int .i64 (n + 1) :: rs).toArray) rfl rfl (fits_agg _) (by simp <;> omega) (splice5 (by simp <;> omega)) (msg_size (by simp <;> omega)) HM2.out ?_
  intro WA hO
  replace HO := hide hO
  clear hO
  refine hK.out _ _ (HO.out.cells 1 rfl) (fun hS4 => ?_)
  clear hK K
  try simp only [Act.put, List.getElem_toArray, List.getElem_cons_zero, List.getElem_cons_succ, List.setIfInBounds_toArray, List.set_cons_zero, List.set_cons_succ]
  refine wpAnyH_done (by kernel_rfl) ?_ _
  clear hS0
  go_wp2_with fail
  refine wp_region_held_drew (S := fun W => (∀ j, W.cell? ⟨b0, j, none⟩ = (rcl i m T (n + 1) true (va :: vb :: .int .i64 i :: .int .i64 (n + 1) :: rs) : List Value)[j]?) ∧ (∀ j, W.cell? ⟨b1, j, none⟩ = (va :: vb :: .int .i64 i :: .int .i64 (n + 1) :: rs : List Value)[j]?)) (by kernel_rfl) (⟨HO.out.drew.cells 0 rfl, HO.out.drew.cells 1 rfl⟩) (fun hS0 => ?_)
  replace HO := hide HO.out.drew
  refine wpAnyH_take (i := 0) (v := .agg (rcl i m T (n + 1) true (va :: vb :: .int .i64 i :: .int .i64 (n + 1) :: rs)).toArray) rfl (by kernel_rfl) (by kernel_rfl) (by kernel_rfl) (fun _ _ _ h => h) (yieldsIf_load rfl 46 (.tmp 2) rfl b0 0 52 46 (rcl i m T (n + 1) true (va :: vb :: .int .i64 i :: .int .i64 (n + 1) :: rs)) (rcl i m T (n + 1) true (va :: vb :: .int .i64 i :: .int .i64 (n + 1) :: rs)) _ (fun w hw => hw.1) (take_all (rcl_len (by simp <;> omega))) rfl Try.underlying46 rfl (rc_size (rcl_len (by simp <;> omega)))) (by assumption) ?_
  try simp only [Act.put, List.getElem_toArray, List.getElem_cons_zero, List.getElem_cons_succ, List.setIfInBounds_toArray, List.set_cons_zero, List.set_cons_succ]
  refine wpAnyH_take (i := 1) (v := ?vz1) rfl (by kernel_rfl) (by kernel_rfl) (by kernel_rfl) (fun _ _ _ h => h) (Or.inl ⟨by rfl, ?hyz1⟩) (by assumption) ?restz1
  case hyz1 => (intro w hSw; (try dsimp only at hSw); go_simp; first | done | (with_reducible rfl))
  try simp only [Act.put, List.getElem_toArray, List.getElem_cons_zero, List.getElem_cons_succ, List.setIfInBounds_toArray, List.set_cons_zero, List.set_cons_succ]
  refine wpAnyH_take (i := 2) (v := ?vz2) rfl (by kernel_rfl) (by kernel_rfl) (by kernel_rfl) (fun _ _ _ h => h) (Or.inl ⟨by rfl, ?hyz2⟩) (by assumption) ?restz2
  case hyz2 => (intro w hSw; (try dsimp only at hSw); go_simp; first | done | (with_reducible rfl))
  try simp only [Act.put, List.getElem_toArray, List.getElem_cons_zero, List.getElem_cons_succ, List.setIfInBounds_toArray, List.set_cons_zero, List.set_cons_succ]
  refine wpAnyH_take (i := 3) (v := .agg (va :: vb :: .int .i64 i :: .int .i64 (n + 1) :: rs).toArray) rfl (by kernel_rfl) (by kernel_rfl) (by kernel_rfl) (fun _ _ _ h => h) (yieldsIf_load rfl 41 (.tmp 3) rfl b1 0 47 41 (va :: vb :: .int .i64 i :: .int .i64 (n + 1) :: rs) (va :: vb :: .int .i64 i :: .int .i64 (n + 1) :: rs) _ (fun w hw => hw.2) (take_all (by simp <;> omega)) rfl Try.underlying41 rfl (msg_size (by simp <;> omega))) (by assumption) ?_
  try simp only [Act.put, List.getElem_toArray, List.getElem_cons_zero, List.getElem_cons_succ, List.setIfInBounds_toArray, List.set_cons_zero, List.set_cons_succ]
  refine wpAnyH_take (i := 4) (v := .agg (.int .i64 T :: va :: vb :: .int .i64 i :: .int .i64 (n + 1) :: rs).toArray) rfl (by kernel_rfl) (by kernel_rfl) (by kernel_rfl) (fun _ _ _ h => h) (yieldsIf_build rfl 59 _ rfl ([(0, .int .i64 T), (1, .agg (va :: vb :: .int .i64 i :: .int .i64 (n + 1) :: rs).toArray)]) (by first | (simp [Act.eval]; done) | (simp [Act.eval]; rfl)) (.int .i64 T :: va :: vb :: .int .i64 i :: .int .i64 (n + 1) :: rs).toArray (built_out T (va :: vb :: .int .i64 i :: .int .i64 (n + 1) :: rs) (by simp <;> omega))) (by assumption) ?_
  try simp only [Act.put, List.getElem_toArray, List.getElem_cons_zero, List.getElem_cons_succ, List.setIfInBounds_toArray, List.set_cons_zero, List.set_cons_succ]
  refine wpAnyH_ready (rs := [5]) (by kernel_rfl) (by simp) ?_
  refine AllReadyH.cons rfl (fun K hK => ?_) AllReadyH.nil
  refine step_store_own HO.out rfl 46 (.tmp 4) (.tmp 19) rfl 2 _ 0 _ _ (rcl i m T (n + 1) true (va :: vb :: .int .i64 i :: .int .i64 (n + 1) :: rs)) (rcl i m T (n + 1) true (va :: vb :: .int .i64 i :: .int .i64 (n + 1) :: rs)) rfl (.agg (rcl i m T (n + 1) true (va :: vb :: .int .i64 i :: .int .i64 (n + 1) :: rs)).toArray) rfl rfl (fits_agg _) (by rw [rcl_len (by simp <;> omega), zrc_len]; exact Nat.le_refl _) (splice_all (by rw [rcl_len (by simp <;> omega), zrc_len])) (rc_size (rcl_len (by simp <;> omega))) (rcl_ones HM2.out) ?_
  intro WA hO
  replace HO := hide hO
  clear hO
  refine hK.out _ _ (⟨HO.out.cells 0 rfl, HO.out.cells 1 rfl⟩) (fun hS5 => ?_)
  clear hK K
  try simp only [Act.put, List.getElem_toArray, List.getElem_cons_zero, List.getElem_cons_succ, List.setIfInBounds_toArray, List.set_cons_zero, List.set_cons_succ]
  refine wpAnyH_ready (rs := [6]) (by kernel_rfl) (by simp) ?_
  refine AllReadyH.cons rfl (fun K hK => ?_) AllReadyH.nil
  refine step_store_own HO.out rfl 59 (.tmp 5) (.tmp 23) rfl 3 _ 0 _ _ (.int .i64 T :: va :: vb :: .int .i64 i :: .int .i64 (n + 1) :: rs) (.int .i64 T :: va :: vb :: .int .i64 i :: .int .i64 (n + 1) :: rs) rfl (.agg (.int .i64 T :: va :: vb :: .int .i64 i :: .int .i64 (n + 1) :: rs).toArray) rfl rfl (fits_agg _) (by rw [zout_len]; simp <;> omega) (splice_all (by rw [zout_len]; simp <;> omega)) (out_size (by simp <;> omega)) (out_ones HM2.out) ?_
  intro WA hO
  replace HO := hide hO
  clear hO
  refine hK.out _ _ (⟨HO.out.cells 0 rfl, HO.out.cells 1 rfl⟩) (fun hS6 => ?_)
  clear hK K
  try simp only [Act.put, List.getElem_toArray, List.getElem_cons_zero, List.getElem_cons_succ, List.setIfInBounds_toArray, List.set_cons_zero, List.set_cons_succ]
  refine wpAnyH_done (by kernel_rfl) ?_ _
  clear hS0
  go_wp2_with fail
  refine bodyPost_ret (results_row_row rfl _ HO.out 2 3 _ _ _ _ _ _ _ _ rfl rfl rfl rfl Try.underlying46 rfl (rc_size (rcl_len (by simp <;> omega))) Try.underlying59 rfl (out_size (by simp <;> omega))) rfl ?_
  exact ⟨rfl, HO.out.below⟩
end Go.Proofs.Ytpbgelhjbfckcaa
/- Same of a request with itself. -/
namespace Go.Proofs.Ytpbgelhjbfckcaa
open Go.ChangeShapes Go.WideShapes Go.ChangeAt Go.RowKit
set_option linter.unusedVariables false
set_option linter.unusedSimpArgs false

theorem at_calls (f : FuncId) {P : Program} {args : Array Value} {w : World} {Q : Ending → World → Prop} (h : Calls P f args w Q) : Calls P f args w Q := h
def Yes (w : World) (e : Ending) (w' : World) : Prop := e = .returned (.bool true) ∧ Below w.heap.size w w'
set_option maxRecDepth 100000 in
theorem sameInts_nil (w : World) : Calls Try.prog 31 #[.slice none 0 0, .slice none 0 0] w (Yes w) := by
  go_enter Try.func31, Try.ntmps31
  go_wp2_with fail
  go_loop [5] (fun v5 => v5 = .int .i64 0) (fun _ => 0)
  case atStart => rfl
  case round =>
    subst hrel
    go_wp2_with fail
    go_ret
    exact ⟨rfl, Below.refl _ _⟩
set_option maxRecDepth 100000 in
theorem sameChange_zero (w : World) : Calls Try.prog 29 #[.agg #[zi, zi, zl, zl], .agg #[zi, zi, zl, zl]] w (Yes w) := by
  have HO := hide (Own.nil w [] (by simp))
  go_enter Try.func29, Try.ntmps29
  go_wp2_with (first
    | ((with_reducible refine at_box 30 (.tmp 0) ?_); refine wpList_box_own HO.out rfl 30 (.tmp 0) rfl ([zi, zi, zl, zl]) rfl ?_; intro WA b0 hO; replace HO := hide hO; clear hO)
    | ((with_reducible refine at_box 30 (.tmp 1) ?_); refine wpList_box_own HO.out rfl 30 (.tmp 1) rfl ([zi, zi, zl, zl]) rfl ?_; intro WA b1 hO; replace HO := hide hO; have k0 := hO.cells 0 rfl; have k1 := hO.cells 1 rfl; clear hO)
    | ((with_reducible refine at_calls 31 ?_); refine (sameInts_nil _).mono ?_; rintro e wN ⟨rfl, hb⟩; replace HO := hide (HO.out.step hb); replace k0 := HO.out.cells 0 rfl; replace k1 := HO.out.cells 1 rfl; clear hb))
  go_ret
  exact ⟨rfl, HO.out.below⟩
set_option maxRecDepth 100000 in
theorem sameConfig_zero (w : World) : Calls Try.prog 48 #[.agg #[zl, zl, zl], .agg #[zl, zl, zl]] w (Yes w) := by
  have HO := hide (Own.nil w [] (by simp))
  go_enter Try.func48, Try.ntmps48
  go_wp2_with (first
    | ((with_reducible refine at_box 34 (.tmp 0) ?_); refine wpList_box_own HO.out rfl 34 (.tmp 0) rfl ([zl, zl, zl]) rfl ?_; intro WA b0 hO; replace HO := hide hO; clear hO)
    | ((with_reducible refine at_box 34 (.tmp 1) ?_); refine wpList_box_own HO.out rfl 34 (.tmp 1) rfl ([zl, zl, zl]) rfl ?_; intro WA b1 hO; replace HO := hide hO; have k0 := hO.cells 0 rfl; have k1 := hO.cells 1 rfl; clear hO)
    | ((with_reducible refine at_calls 31 ?_); refine (sameInts_nil _).mono ?_; rintro e wN ⟨rfl, hb⟩; replace HO := hide (HO.out.step hb); replace k0 := HO.out.cells 0 rfl; replace k1 := HO.out.cells 1 rfl; clear hb))
  go_ret
  exact ⟨rfl, HO.out.below⟩
set_option maxRecDepth 100000 in
set_option maxHeartbeats 1000000 in
theorem sameStatus_zero (w : World) : Calls Try.prog 30 #[.agg #[zi, zi, zi, zi, zi, zi, zi, zi, zl, zl, zl, zl, zl, zl, zl], .agg #[zi, zi, zi, zi, zi, zi, zi, zi, zl, zl, zl, zl, zl, zl, zl]] w (Yes w) := by
  have HO := hide (Own.nil w [] (by simp))
  go_enter Try.func30, Try.ntmps30
  go_wp2_with (first
    | ((with_reducible refine at_box 36 (.tmp 0) ?_); refine wpList_box_own HO.out rfl 36 (.tmp 0) rfl ([zi, zi, zi, zi, zi, zi, zi, zi, zl, zl, zl, zl, zl, zl, zl]) rfl ?_; intro WA b0 hO; replace HO := hide hO; clear hO)
    | ((with_reducible refine at_box 36 (.tmp 1) ?_); refine wpList_box_own HO.out rfl 36 (.tmp 1) rfl ([zi, zi, zi, zi, zi, zi, zi, zi, zl, zl, zl, zl, zl, zl, zl]) rfl ?_; intro WA b1 hO; replace HO := hide hO; have k0 := hO.cells 0 rfl; have k1 := hO.cells 1 rfl; clear hO)
    | ((with_reducible refine at_calls 48 ?_); refine (sameConfig_zero _).mono ?_; rintro e wN ⟨rfl, hb⟩; replace HO := hide (HO.out.step hb); replace k0 := HO.out.cells 0 rfl; replace k1 := HO.out.cells 1 rfl; clear hb)
    | ((with_reducible refine at_calls 31 ?_); refine (sameInts_nil _).mono ?_; rintro e wN ⟨rfl, hb⟩; replace HO := hide (HO.out.step hb); replace k0 := HO.out.cells 0 rfl; replace k1 := HO.out.cells 1 rfl; clear hb))
  go_ret
  exact ⟨rfl, HO.out.below⟩
set_option maxRecDepth 100000 in
set_option maxHeartbeats 1000000 in
theorem sameMessage_zero (w : World) : Calls Try.prog 32 #[.agg #[zi, zi, zi, zi, zi, zi, zi, zi, zb0, zl, zi, zs, zb0], .agg #[zi, zi, zi, zi, zi, zi, zi, zi, zb0, zl, zi, zs, zb0]] w (Yes w) := by
  have HO := hide (Own.nil w [] (by simp))
  go_enter Try.func32, Try.ntmps32
  go_wp2_with (first
    | ((with_reducible refine at_box 39 (.tmp 0) ?_); refine wpList_box_own HO.out rfl 39 (.tmp 0) rfl ([zi, zi, zi, zi, zi, zi, zi, zi, zb0, zl, zi, zs, zb0]) rfl ?_; intro WA b0 hO; replace HO := hide hO; clear hO)
    | ((with_reducible refine at_box 39 (.tmp 1) ?_); refine wpList_box_own HO.out rfl 39 (.tmp 1) rfl ([zi, zi, zi, zi, zi, zi, zi, zi, zb0, zl, zi, zs, zb0]) rfl ?_; intro WA b1 hO; replace HO := hide hO; have k0 := hO.cells 0 rfl; have k1 := hO.cells 1 rfl; clear hO))
  go_loop [5] (fun v5 => v5 = .int .i64 0) (fun _ => 0)
  case atStart => rfl
  case round =>
    subst hrel
    go_wp2_with fail
    go_ret
    exact ⟨rfl, HO.out.below⟩
set_option maxRecDepth 100000 in
set_option maxHeartbeats 4000000 in
theorem same_req (k g c n : Int) (b : ByteArray) (v : Int) (w : World) : Calls Try.prog 17 #[.agg (req k g c n b v).toArray, .agg (req k g c n b v).toArray] w (Yes w) := by
  have HO := hide (Own.nil w [] (by simp))
  unfold req zmsg
  simp only [List.drop_succ_cons, List.drop_zero, List.cons_append, List.nil_append]
  go_enter Try.func17, Try.ntmps17
  go_wp2_with (first
    | ((with_reducible refine at_box 41 (.tmp 0) ?_); refine wpList_box_own HO.out rfl 41 (.tmp 0) rfl (_) rfl ?_; intro WA b0 hO; replace HO := hide hO; clear hO)
    | ((with_reducible refine at_box 41 (.tmp 1) ?_); refine wpList_box_own HO.out rfl 41 (.tmp 1) rfl (_) rfl ?_; intro WA b1 hO; replace HO := hide hO; have k0 := hO.cells 0 rfl; have k1 := hO.cells 1 rfl; clear hO)
    | ((with_reducible refine at_calls 29 ?_); refine (sameChange_zero _).mono ?_; rintro e wN ⟨rfl, hb⟩; replace HO := hide (HO.out.step hb); replace k0 := HO.out.cells 0 rfl; replace k1 := HO.out.cells 1 rfl; clear hb)
    | ((with_reducible refine at_calls 30 ?_); refine (sameStatus_zero _).mono ?_; rintro e wN ⟨rfl, hb⟩; replace HO := hide (HO.out.step hb); replace k0 := HO.out.cells 0 rfl; replace k1 := HO.out.cells 1 rfl; clear hb)
    | ((with_reducible refine at_calls 31 ?_); refine (sameInts_nil _).mono ?_; rintro e wN ⟨rfl, hb⟩; replace HO := hide (HO.out.step hb); replace k0 := HO.out.cells 0 rfl; replace k1 := HO.out.cells 1 rfl; clear hb)
    | ((with_reducible refine at_calls 32 ?_); refine (sameMessage_zero _).mono ?_; rintro e wN ⟨rfl, hb⟩; replace HO := hide (HO.out.step hb); replace k0 := HO.out.cells 0 rfl; replace k1 := HO.out.cells 1 rfl; clear hb))
  go_ret
  exact ⟨rfl, HO.out.below⟩
end Go.Proofs.Ytpbgelhjbfckcaa
/- The walk of ClientDecodes. -/
namespace Go.Proofs.Ytpbgelhjbfckcaa
open Go.ChangeMaps Go.ChangeShapes Go.WideShapes Go.ChangeAt Go.RowKit
set_option maxRecDepth 100000
set_option linter.unusedVariables false
set_option linter.unusedSimpArgs false

theorem wpList_build_gd {P : Program} {w : World} {ops : Array Oper} {rest : List Oper} {o : Oper} {a : Act} {Q : Exit → Act → World → Prop} (hw : Region.wanted o (yielded ops a.tmps) = true) (t : TypeId) (parts : Array (Nat × Operand)) (ho : o.op = .build t parts)
    (vs : List (Nat × Value)) (he : (parts.map fun (i, x) => (i, a.eval x)).toList = vs) (cells : Array Value) (hc : P.built t vs = some cells)
    (h : wpList P ops Q rest (a.put o.dst (.agg cells)) w) : wpList P ops Q (o :: rest) a w := wpList_step fun K hK => by
  rw [if_pos hw]
  unfold Oper.wp execOp
  subst he
  simp only [ho, Sem.run_bind, run_build w t _ cells hc, Result.andThen_ok]
  exact hK _ _ h
theorem same_zero (w : World) : Calls Try.prog 17 #[.agg zmsgI.toArray, .agg zmsgI.toArray] w (Yes w) := by
  rw [zmsgI_def]
  exact same_req 0 0 0 0 ⟨#[]⟩ 0 w
theorem takes_valid {s : ByteArray} {cs : List Value} (h : Takes s cs) : validP cs ((dec s.data.toList).1.li 33) = true := by
  obtain ⟨_, h1, h2⟩ := h
  cases hv : validP cs ((dec s.data.toList).1.li 33) with
  | true => rfl
  | false =>
    unfold encP at h2
    rw [hv] at h2
    exact absurd (by rw [← h2]; rfl) h1
set_option maxHeartbeats 4000000 in
theorem walkClientDecodes (W : World) (s : ByteArray) (ws : s.size ≤ maxLen) : Calls Try.prog 8 #[.string s] W fun e w' => e = .returned (.bool true) ∧ Below W.heap.size W w' := by
  by_cases hlen : 2000 < s.size
  · have hi : (2000 : Int) < (s.size : Int) := by omega
    clear hlen
    go_enter Try.func8, Try.ntmps8
    go_wp2_with fail
    refine (awake_c _).mono ?_
    rintro e w1 ⟨rfl, hb⟩
    have HB := hide hb
    clear hb
    go_wp2_with fail
    go_ret
    exact ⟨rfl, HB.out⟩
  · have hi : (s.size : Int) ≤ 2000 := by omega
    have HSZ : Hid (SzOk (dec s.data.toList).1) := hide (dec_sz _ (by rw [Array.length_toList]; exact Nat.le_of_not_lt hlen))
    have HS : Hid (s.size ≤ 1000000000) := hide (by omega)
    clear hlen
    go_enter Try.func8, Try.ntmps8
    go_wp2_with fail
    refine (decode_c s W HS.out HSZ.out).mono ?_
    rintro e w1 ⟨hb1, cs, A0, hM, hr⟩
    have HB1 := hide hb1
    have HM := hide (hM.toM HSZ.out)
    have HON := hide hM.ones
    have HLEN := hide hM.len
    have HO := hide (Own.nil w1 [] (by simp))
    clear hb1 hM
    rcases hr with ⟨ht, rfl⟩ | ⟨ht, he⟩
    · have HT := hide ht
      clear ht hi
      have hq2 : (s.toList == s.toList) = true := by simp
      go_wp2_with (first
        | ((with_reducible refine at_alloc 41 ?_); refine wpList_alloc_own HO.out rfl 41 rfl zmsgI zmsgI_info ?_; intro WA g hO; replace HO := hide hO; clear hO)
        | ((with_reducible refine at_store 41 (.tmp 3) ?_); refine wpList_store_own HO.out rfl 41 (.tmp 3) (.tmp 12) rfl 0 _ 0 _ _ cs cs rfl (.agg cs.toArray) rfl rfl (fits_agg _) (by rw [zmsgI_len, HLEN.out]; exact Nat.le_refl _) (splice_all (by rw [zmsgI_len, HLEN.out])) (msg_sizeE HLEN.out) HON.out ?_; intro W9 hO; replace HO := hide hO; clear hO)
        | ((with_reducible refine at_load 41 (.tmp 3) ?_); refine wpList_load_gd rfl 41 (.tmp 3) rfl _ 41 cs _ (HO.out.blk 0 rfl) rfl Try.underlying41 rfl (msg_sizeE HLEN.out) ?_))
      have HM2 := hide ((HM.out.below HO.out.below).mono HO.out.below.size)
      refine (valid_c cs _ _ HM2.out.T (HM2.out.S 33 (by decide))).mono ?_
      rintro e w2 ⟨rfl, hb2⟩
      rw [takes_valid HT.out]
      replace HM2 := hide ((HM2.out.below hb2).mono hb2.size)
      replace HO := hide (HO.out.step hb2)
      clear hb2
      go_wp2_with ((with_reducible refine at_load 41 (.tmp 3) ?_); refine wpList_load_gd rfl 41 (.tmp 3) rfl _ 41 cs _ (HO.out.blk 0 rfl) rfl Try.underlying41 rfl (msg_sizeE HLEN.out) ?_)
      refine (encode_c cs _ _ _ HM2.out).mono ?_
      rintro e w3 ⟨rfl, hb3⟩
      rw [HT.out.2.2]
      replace HO := hide (HO.out.step hb3)
      clear hb3
      go_wp2_with fail
      refine (awake_c _).mono ?_
      rintro e w4 ⟨rfl, hb4⟩
      have HB4 := hide (HO.out.step hb4)
      clear hb4
      go_wp2_with fail
      go_ret
      exact ⟨rfl, below_trans HB1.out (HB4.out.below.mono HB1.out.size)⟩
    · rw [← zmsgI_def] at he
      subst he
      clear ht hi
      go_wp2_with (first
        | ((with_reducible refine at_alloc 41 ?_); refine wpList_alloc_own HO.out rfl 41 rfl zmsgI zmsgI_info ?_; intro WA g hO; replace HO := hide hO; clear hO)
        | ((with_reducible refine at_store 41 (.tmp 3) ?_); refine wpList_store_own HO.out rfl 41 (.tmp 3) (.tmp 12) rfl 0 _ 0 _ _ zmsgI zmsgI rfl (.agg zmsgI.toArray) rfl rfl (fits_agg _) (by rw [zmsgI_len]; exact Nat.le_refl _) (splice_all rfl) (msg_sizeE zmsgI_len) zmsgI_ones ?_; intro W9 hO; replace HO := hide hO; clear hO)
        | ((with_reducible refine at_build 41 ?_); refine wpList_build_gd rfl 41 #[] rfl [] (by simp) zmsgI.toArray zmsgI_built ?_)
        | ((with_reducible refine at_load 41 (.tmp 3) ?_); refine wpList_load_gd rfl 41 (.tmp 3) rfl _ 41 zmsgI _ (HO.out.blk 0 rfl) rfl Try.underlying41 rfl (msg_sizeE zmsgI_len) ?_))
      refine (same_zero _).mono ?_
      rintro e w2 ⟨rfl, hb2⟩
      replace HO := hide (HO.out.step hb2)
      clear hb2
      go_wp2_with fail
      refine (awake_c _).mono ?_
      rintro e w4 ⟨rfl, hb4⟩
      have HB4 := hide (HO.out.step hb4)
      clear hb4
      go_wp2_with fail
      go_ret
      exact ⟨rfl, below_trans HB1.out (HB4.out.below.mono HB1.out.size)⟩
end Go.Proofs.Ytpbgelhjbfckcaa
