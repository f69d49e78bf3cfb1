/- awake: the example returns true. -/
import Derived.Test.YtpbgelhjbfckcaaS07
import Derived.Test.YtpbgelhjbfckcaaS12
import Derived.Test.YtpbgelhjbfckcaaS03
import Derived.Test.YtpbgelhjbfckcaaS01
namespace Go.Proofs.Ytpbgelhjbfckcaa
open Go.ChangeShapes Go.WideShapes Go.ChangeAt Go.RowKit
set_option linter.unusedVariables false
set_option linter.unusedSimpArgs false

theorem opens_req (S : CS) (k g a c : Int) (b : ByteArray) (v : Int) : opens S (req k g a c b v) = req k g S.id (S.number + 1) b v := rfl
def bx : ByteArray := ⟨#[120]⟩
/-- The client of the example behind its first request. -/
def sA : CS := ⟨3, 2, 1, 1, some (req 1 1 3 1 bx 0)⟩
def sB : CS := ⟨3, 2, 2, 1, some (req 1 1 3 1 bx 0)⟩
def sC : CS := ⟨3, 2, 1, 1, none⟩
theorem ask_awake : cRequest (csNew 3 2) 1 bx = ⟨sA, .int .i64 1 :: req 1 1 3 1 bx 0, 0⟩ := by
  unfold cRequest
  rw [if_neg (by simp [csNew]), if_neg (by omega), if_neg (by decide)]
  rw [opens_req]
  unfold opened
  rw [opens_req]
  rfl
theorem ret_awake : cRetry sA = ⟨sB, .int .i64 2 :: req 1 1 3 1 bx 0, true⟩ := rfl
def mA : MV := ⟨2, 1, 3, 1, 17, ⟨#[]⟩, 101, zmsg.drop 7⟩
def mB : MV := ⟨2, 1, 3, 1, 0, ⟨#[]⟩, 0, zmsg.drop 7⟩
theorem mA_ok : mA.Ok := ⟨rfl, by simp [mA, zmsg, Value.oneCell'], by decide⟩
theorem mB_ok : mB.Ok := ⟨rfl, by simp [mB, zmsg, Value.oneCell'], by decide⟩
theorem built_mA : Try.prog.built 41 [(0, .int .i64 2), (1, .int .i64 1), (2, .int .i64 3), (3, .int .i64 1), (4, .int .i64 17), (6, .int .i64 101)] = some mA.cells.toArray := by kernel_rfl
def sA1 : CS := ⟨3, 2, 1, 1, some (req 1 1 3 1 bx 0)⟩
theorem recA (g : Nat) (p : Value) (w : World) (h : Cl w g sB p) :
    Calls Try.prog 16 #[.pointer (some ⟨g, 0, none⟩), .int .i64 2, .agg mA.cells.toArray] w (RecR w g ⟨sA, false, some (.int .i64 1 :: req 1 1 3 1 bx 0)⟩) := by
  have hh := recv_c g sB p 2 mA w h mA_ok 1 1 _ rfl (.inl rfl)
  rw [if_pos (by decide)] at hh
  have e : cAnswered sB (.int .i64 1 :: .int .i64 1 :: (req 1 1 3 1 bx 0).drop 2) mA 2 = ⟨sA, false, some (.int .i64 1 :: req 1 1 3 1 bx 0)⟩ := by
    unfold cAnswered
    rw [if_neg (by decide), if_pos (by decide)]
    rfl
  exact e ▸ hh
theorem recB (g : Nat) (p : Value) (w : World) (h : Cl w g sA p) :
    Calls Try.prog 16 #[.pointer (some ⟨g, 0, none⟩), .int .i64 1, .agg mB.cells.toArray] w (RecR w g ⟨sC, true, none⟩) := by
  have hh := recv_c g sA p 1 mB w h mB_ok 1 1 _ rfl (.inl rfl)
  rw [if_pos (by decide)] at hh
  have e : cAnswered sA (.int .i64 1 :: .int .i64 1 :: (req 1 1 3 1 bx 0).drop 2) mB 1 = ⟨sC, true, none⟩ := by
    unfold cAnswered
    rw [if_pos (by decide)]
    rfl
  exact e ▸ hh
theorem Cl.ptr_lt {w : World} {g : Nat} {S : CS} {p : Value} (h : Cl w g S p) {b : Nat} (hp : p = .pointer (some ⟨b, 0, none⟩)) : b < w.heap.size := by
  cases ho : S.opened with
  | none => rw [h.shut ho] at hp; cases hp
  | some cs =>
    obtain ⟨b', _, h2, h3⟩ := h.opened cs ho
    rw [h2] at hp
    injection hp with hp; injection hp with hp; injection hp with hp
    subst hp
    exact h3.lt
set_option maxRecDepth 100000 in
set_option maxHeartbeats 1000000 in
theorem awake_c (w : World) : Calls Try.prog 10 #[] w fun e w' => e = .returned (.bool true) ∧ Below w.heap.size w w' := by
  go_enter Try.func10, Try.ntmps10
  go_wp2_with fail
  refine (new_c 3 2 (by decide) (by decide) w).mono ?_
  rintro e w1 ⟨rfl, hc, hb⟩
  obtain ⟨g, hg⟩ : ∃ g, w.heap.size = g := ⟨_, rfl⟩
  have HG := hide hg
  rw [hg] at hc
  have HC := hide hc
  have HB := hide hb
  rw [hg]
  clear hc hb hg
  go_wp2_with fail
  refine (ask_awake ▸ request_c g (csNew 3 2) (.pointer none) 1 bx w1 HC.out (by decide) (by decide)).mono ?_
  rintro e w2 ⟨rfl, ⟨q2, hc⟩, ht⟩
  have HC2 := hide hc
  have HB2 := hide (Below.touch HB.out ht (by simp; exact Nat.le_of_eq HG.out) HB.out.size)
  have HT2 := hide ht
  clear hc ht
  dsimp only
  obtain ⟨L2, hL2⟩ : ∃ L, L = (.int .i64 1 :: req 1 1 3 1 bx 0) := ⟨_, rfl⟩
  rw [← hL2]
  have HLL2 : Hid (L2.length = 48) := hide (by rw [hL2]; rfl)
  have HLO2 : Hid (L2.toArray.all (·.oneCell') = true) := hide (by rw [hL2]; exact one_out (req_one _ _ _ _ _ _))
  have HLS2 : Hid ((Try.prog.info? 59).map (·.size) = some L2.toArray.size) := hide (by rw [hL2]; exact size_out rfl)
  have HLD2 := hide hL2
  clear hL2
  go_wp2_with (first
    | (refine wpList_alloc_blk rfl 59 rfl zout.toArray zout_info ?_; intro wa hx1 hb1 hs1; have HXA := hide hx1; have HBA := hide hb1; clear hx1 hb1 hs1)
    | (refine wpList_store_blk rfl 59 (.tmp 2) _ rfl w2.heap.size 59 zout.toArray L2.toArray rfl rfl HXA.out (by rw [List.size_toArray, List.size_toArray, HLL2.out, zout_len]) HLS2.out HLO2.out ?_; intro x2 hx2 ht2 hs2; have HX2 := hide hx2; have HS2 := hide (Below.touch (HBA.out) ht2 (by simp) HBA.out.size); clear HXA HBA hx2 ht2 hs2))
  have HCX := hide (HC2.out.step HS2.out)
  have HBX := hide (HB2.out.trans (HS2.out.mono HB2.out.size))
  refine (ret_awake ▸ retry_c g sA q2 x2 HCX.out).mono ?_
  rintro e w3 ⟨rfl, ⟨q3, hc⟩, ht⟩
  have HC3 := hide hc
  have HB3 := hide (Below.touch HBX.out ht (by simp; exact Nat.le_of_eq HG.out) HBX.out.size)
  have HT3 := hide ht
  clear hc ht
  dsimp only
  obtain ⟨L3, hL3⟩ : ∃ L, L = (.int .i64 2 :: req 1 1 3 1 bx 0) := ⟨_, rfl⟩
  rw [← hL3]
  have HLL3 : Hid (L3.length = 48) := hide (by rw [hL3]; rfl)
  have HLO3 : Hid (L3.toArray.all (·.oneCell') = true) := hide (by rw [hL3]; exact one_out (req_one _ _ _ _ _ _))
  have HLS3 : Hid ((Try.prog.info? 59).map (·.size) = some L3.toArray.size) := hide (by rw [hL3]; exact size_out rfl)
  have HLD3 := hide hL3
  clear hL3
  go_wp2_with (first
    | (refine wpList_alloc_blk rfl 59 rfl zout.toArray zout_info ?_; intro wa hx1 hb1 hs1; have HXA := hide hx1; have HBA := hide hb1; clear hx1 hb1 hs1)
    | (refine wpList_store_blk rfl 59 (.tmp 4) _ rfl w3.heap.size 59 zout.toArray L3.toArray rfl rfl HXA.out (by rw [List.size_toArray, List.size_toArray, HLL3.out, zout_len]) HLS3.out HLO3.out ?_; intro x3 hx2 ht2 hs2; have HX3 := hide hx2; have HS3 := hide (Below.touch (HBA.out) ht2 (by simp) HBA.out.size); have hY2 := (HX2.out.touch HT3.out (by simp only [List.mem_singleton]; exact fun e => Nat.lt_irrefl _ (e ▸ HC2.out.lt))).step HS3.out; have t2 := hY2.cell 0; have n2 := hY2.cell 4; have c2 := hY2.cell 3; have t3 := HX3.out.cell 0; rw [HLD2.out] at t2 n2 c2; rw [HLD3.out] at t3; unfold req at t2 n2 c2 t3; simp only [List.getElem?_toArray, List.getElem?_cons_zero, List.getElem?_cons_succ, List.cons_append] at t2 n2 c2 t3; have HC4 := hide (HC3.out.step HS3.out); have HB4 := hide (HB3.out.trans (HS3.out.mono HB3.out.size)); clear HXA HBA hx2 ht2 hs2 hY2)
    | (refine wpList_build rfl 41 _ rfl _ (by simp [Act.eval]; rfl) mA.cells.toArray built_mA ?_)
    | (refine wpList_alloc_blk rfl 41 rfl zmsgI.toArray zmsgI_info ?_; intro wm hx1 hb1 hs1; clear t2 n2 c2 t3; have HXM := hide hx1; have HBM := hide hb1; have HC5 := hide (HC4.out.step hb1); have HB5 := hide (HB4.out.trans (hb1.mono HB4.out.size)); clear hx1 hb1 hs1)
    | (refine wpList_store_blk rfl 41 (.tmp 6) _ rfl x3.heap.size 41 zmsgI.toArray mA.cells.toArray rfl rfl HXM.out (by rw [List.size_toArray, List.size_toArray, mA_ok.size, zmsgI_len]) (size_msg mA_ok.size) mA_ok.ones ?_; intro wn hx2 ht2 hs2; have HXN := hide hx2; have HCN := hide (HC5.out.far_of ht2 (by simp only [List.mem_singleton]; exact fun e => Nat.lt_irrefl _ (e ▸ HC4.out.lt)) (fun b hb => by simp only [List.mem_singleton]; exact fun e => Nat.lt_irrefl _ (e ▸ HC4.out.ptr_lt hb))); have HBN := hide (Below.touch HB5.out ht2 (by simp only [List.mem_singleton]; rintro _ rfl; exact HB4.out.size) HB5.out.size); clear HXM HBM HC5 HB5 hx2 ht2 hs2)
    | (refine wpList_load_blk rfl 41 (.tmp 6) rfl x3.heap.size 41 mA.cells.toArray _ rfl HXN.out Try.underlying41 rfl (size_msg mA_ok.size) ?_))
  refine (recA g q3 wn HCN.out).mono ?_
  rintro e w4 ⟨v4, rfl, ⟨b4, hb4, rfl, hbk, hbl⟩, ⟨q4, hc4⟩, ht4⟩
  have hxn := HXN.out.touch ht4 (by simp only [List.mem_singleton]; exact fun e => Nat.lt_irrefl _ (e ▸ HC4.out.lt))
  have k4 := hxn.cell 4
  have k6 := hxn.cell 6
  have kf4 := hxn.froz 4
  have kf6 := hxn.froz 6
  unfold mA MV.cells at k4 k6
  simp only [List.getElem?_toArray, List.getElem?_cons_zero, List.getElem?_cons_succ] at k4 k6
  have hyn := (hxn.put 4 (.int .i64 0)).put 6 (.int .i64 0)
  rw [show ((mA.cells.toArray.setIfInBounds 4 (.int .i64 0)).setIfInBounds 6 (.int .i64 0)) = mB.cells.toArray from by simp [mA, mB, MV.cells]] at hyn
  have HYN := hide hyn
  have HX4 : Hid (x3.heap.size < wn.heap.size) := hide HXN.out.lt
  have hc6 : Cl ((w4.setCell ⟨x3.heap.size, 4, none⟩ (.int .i64 0)).setCell ⟨x3.heap.size, 6, none⟩ (.int .i64 0)) g sA q4 :=
    hc4.far_of (((Touch.refl [x3.heap.size] w4).set (by simp) 4 _).set (by simp) 6 _) (by simp only [List.mem_singleton]; exact fun e => Nat.lt_irrefl _ (e ▸ HC4.out.lt)) (fun b hb => by
      obtain ⟨b', _, h2, h3⟩ := hc4.opened _ rfl
      have h2' := h2.symm.trans hb
      injection h2' with h2'; injection h2' with h2'; injection h2' with h2'
      subst h2'
      simp only [List.mem_singleton]
      rintro rfl
      unfold Blk at h3 hxn
      rw [hxn] at h3
      injection h3 with h3
      injection h3 with h3
      exact absurd (congrArg (fun a => a[4]?) h3) (by simp [mA, MV.cells, req]))
  have HC6 := hide hc6
  have hb6 : Below w.heap.size w ((w4.setCell ⟨x3.heap.size, 4, none⟩ (.int .i64 0)).setCell ⟨x3.heap.size, 6, none⟩ (.int .i64 0)) :=
    ((Below.touch HBN.out ht4 (by simp; exact Nat.le_of_eq HG.out) HBN.out.size).setCell (HB4.out.size) _).setCell (HB4.out.size) _
  have HB6 := hide hb6
  have HK4 : Hid (Blk ((w4.setCell ⟨x3.heap.size, 4, none⟩ (.int .i64 0)).setCell ⟨x3.heap.size, 6, none⟩ (.int .i64 0)) b4 59 (Value.int .i64 1 :: req 1 1 3 1 bx 0).toArray) := hide ((hbk.far (by show b4 ≠ x3.heap.size; exact fun e => Nat.lt_irrefl _ (Nat.lt_of_lt_of_le (e ▸ HX4.out) hb4)) _).far (by show b4 ≠ x3.heap.size; exact fun e => Nat.lt_irrefl _ (Nat.lt_of_lt_of_le (e ▸ HX4.out) hb4)) _)
  clear hbk hbl hb4 hc4 ht4 hxn hyn hc6 hb6
  dsimp only
  go_wp2_with (first
    | (refine wpList_load_blk rfl 41 (.tmp 6) rfl x3.heap.size 41 mB.cells.toArray _ rfl HYN.out Try.underlying41 rfl (size_msg mB_ok.size) ?_))
  refine (recB g q4 _ HC6.out).mono ?_
  rintro e w7 ⟨v7, rfl, hv7, ⟨q7, hc7⟩, ht7⟩
  have e7 : v7 = .slice none 0 0 := hv7
  subst e7
  have hk7 := HK4.out.touch ht7 (by
    simp only [List.mem_singleton]
    rintro rfl
    have h1 := HC6.out.blk
    have h2 := HK4.out
    unfold Blk at h1 h2
    rw [h1] at h2
    injection h2 with h2
    injection h2 with h2 h3
    exact absurd h3 (by decide))
  have t4 := hk7.cell 0
  simp only [List.getElem?_toArray, List.getElem?_cons_zero] at t4
  have HB7 := hide (Below.touch HB6.out ht7 (by simp; exact Nat.le_of_eq HG.out) HB6.out.size)
  clear hv7 hc7 ht7 hk7
  dsimp only
  go_wp2_with fail
  go_ret
  exact ⟨rfl, HB7.out⟩
end Go.Proofs.Ytpbgelhjbfckcaa
/- What an operation does to a client and to the reference: the plain model, and the reference's calls in its words. -/
namespace Go.Proofs.Ytpbgelhjbfckcaa
open Go.ChangeShapes Go.WideShapes Go.ChangeAt Go.RowKit
set_option linter.unusedVariables false
set_option linter.unusedSimpArgs false

/-- The open request is one that Request or Call has made. -/
def Asks (S : CS) : Prop := ∀ cs, S.opened = some cs → ∃ k g b v, cs = req k g S.id S.number b v ∧ (k = 1 ∨ k = 9)
/-- A message that a client sends, or the zero one. -/
def Good (out : List Value) : Prop := ∃ T k g c n b v, out = .int .i64 T :: req k g c n b v
theorem zmsg_req : zmsg = req 0 0 0 0 ⟨#[]⟩ 0 := rfl
theorem zout_good : Good zout := ⟨0, 0, 0, 0, 0, ⟨#[]⟩, 0, by rw [zout_def, zmsg_req]⟩
theorem Good.len {o : List Value} (h : Good o) : o.length = 48 := by obtain ⟨T, k, g, c, n, b, v, rfl⟩ := h; rfl
theorem Good.ones {o : List Value} (h : Good o) : o.all (·.oneCell') = true := by obtain ⟨T, k, g, c, n, b, v, rfl⟩ := h; exact out_ones (req_ones _ _ _ _ _ _)
theorem Good.same {o : List Value} (h : Good o) (b c : Nat) (w : World) (hb : Blk w b 59 o.toArray) (hc : Blk w c 59 o.toArray) :
    Calls Try.prog 35 #[.slice (some ⟨b, 0, none⟩) 1 1, .slice (some ⟨c, 0, none⟩) 1 1] w (Yes w) := by
  obtain ⟨T, k, g, q, n, y, v, rfl⟩ := h
  exact sameOut_one T _ (fun X => same_req k g q n y v X) rfl b c w hb hc
theorem Asks.open_len {S : CS} (h : Asks S) : (openOf S).1.length = 47 ∧ (openOf S).1.all (·.oneCell') = true := by
  unfold openOf
  cases ho : S.opened with
  | none => exact ⟨rfl, req_ones 0 0 0 0 ⟨#[]⟩ 0⟩
  | some cs => obtain ⟨k, g, b, v, rfl, _⟩ := h cs ho; exact ⟨rfl, req_ones _ _ _ _ _ _⟩
theorem Asks.rlen {S : CS} (h : Asks S) : (rC S).length = 52 := rcl_len h.open_len.1
theorem Asks.rones {S : CS} (h : Asks S) : (rC S).all (·.oneCell') = true := rcl_ones h.open_len.2
theorem asks_opened (S : CS) (k g : Int) (b : ByteArray) (v : Int) (hk : k = 1 ∨ k = 9) : Asks (opened S (req k g 0 0 b v)) := fun cs hc => by
  unfold opened at hc
  injection hc with hc
  subst hc
  exact ⟨k, g, b, v, opens_req S k g 0 0 b v, hk⟩
theorem cRequest_asks {S : CS} (h : Asks S) (g : Int) (b : ByteArray) : Asks (cRequest S g b).st ∧ Good (cRequest S g b).out := by
  unfold cRequest
  split
  · exact ⟨h, zout_good⟩
  · split
    · exact ⟨h, zout_good⟩
    · split
      · exact ⟨h, zout_good⟩
      · exact ⟨asks_opened S 1 g b 0 (.inl rfl), S.target, 1, g, S.id, S.number + 1, b, 0, by rw [opens_req]⟩
theorem cCall_asks {S : CS} (h : Asks S) (g v : Int) : Asks (cCall S g v).st ∧ Good (cCall S g v).out := by
  unfold cCall
  split
  · exact ⟨h, zout_good⟩
  · split
    · exact ⟨h, zout_good⟩
    · exact ⟨asks_opened S 9 g ⟨#[]⟩ v (.inr rfl), S.target, 9, g, S.id, S.number + 1, ⟨#[]⟩, v, by rw [opens_req]⟩
theorem cRetry_asks {S : CS} (h : Asks S) : Asks (cRetry S).st ∧ Good (cRetry S).out := by
  unfold cRetry
  cases ho : S.opened with
  | none => exact ⟨h, zout_good⟩
  | some cs =>
    refine ⟨fun cs' hc => h cs' hc, ?_⟩
    obtain ⟨k, g, b, v, rfl, _⟩ := h cs ho
    exact ⟨_, k, g, S.id, S.number, b, v, rfl⟩
theorem rreq_model {S : CS} (hA : Asks S) (hok : S.Ok) (hn : S.number < 1000000) (gr : Int) (b : ByteArray) (hb : b.size ≤ maxLen) (w : World) :
    Calls Try.prog 33 #[.agg (rC S).toArray, .int .i64 gr, .string b] w (Hands w (.tuple #[.agg (rC (cRequest S gr b).st).toArray, .agg (cRequest S gr b).out.toArray, .int .i64 (cRequest S gr b).code])) := by
  have h := rrequest_c S.id S.machines S.target S.number S.opened.isSome (openOf S).1 gr b hb hok.number.1 hn hA.open_len.1 hA.open_len.2 w
  refine h.mono fun e w' hh => ?_
  obtain ⟨rfl, hbw⟩ := hh
  refine ⟨?_, hbw⟩
  unfold cRequest
  cases ho : S.opened with
  | some cs =>
    rw [if_pos (by simp), if_pos (by simp)]
    unfold rC; rw [ho]
  | none =>
    rw [if_neg (by simp : ¬ ((none : Option (List Value)).isSome = true)), if_neg (by simp : ¬ ((none : Option (List Value)) ≠ none))]
    by_cases h1 : gr < 0 ∨ 8 < gr
    · rw [if_pos h1, if_pos h1]
      unfold rC; rw [ho]
    · rw [if_neg h1, if_neg h1]
      by_cases h2 : 4096 < b.size
      · rw [if_pos h2, if_pos h2]
        unfold rC; rw [ho]
      · rw [if_neg h2, if_neg h2, opens_req]
        unfold rC opened openOf
        rw [opens_req]
        rfl
theorem rcall_model {S : CS} (hA : Asks S) (hok : S.Ok) (hn : S.number < 1000000) (gr v : Int) (w : World) :
    Calls Try.prog 36 #[.agg (rC S).toArray, .int .i64 gr, .int .i64 v] w (Hands w (.tuple #[.agg (rC (cCall S gr v).st).toArray, .agg (cCall S gr v).out.toArray, .int .i64 (cCall S gr v).code])) := by
  have h := rcall_c S.id S.machines S.target S.number S.opened.isSome (openOf S).1 gr v hok.number.1 hn hA.open_len.1 hA.open_len.2 w
  refine h.mono fun e w' hh => ?_
  obtain ⟨rfl, hbw⟩ := hh
  refine ⟨?_, hbw⟩
  unfold cCall
  cases ho : S.opened with
  | some cs =>
    rw [if_pos (by simp), if_pos (by simp)]
    unfold rC; rw [ho]
  | none =>
    rw [if_neg (by simp : ¬ ((none : Option (List Value)).isSome = true)), if_neg (by simp : ¬ ((none : Option (List Value)) ≠ none))]
    by_cases h1 : gr < 1 ∨ 8 < gr
    · rw [if_pos h1, if_pos h1]
      unfold rC; rw [ho]
    · rw [if_neg h1, if_neg h1, opens_req]
      unfold rC opened openOf
      rw [opens_req]
      rfl
theorem rret_model {S : CS} (hA : Asks S) (hok : S.Ok) (w : World) :
    Calls Try.prog 38 #[.agg (rC S).toArray] w (Hands w (.tuple #[.agg (rC (cRetry S).st).toArray, .agg (cRetry S).out.toArray, .bool (cRetry S).is])) := by
  have h := rretry_c S.id S.machines S.target S.number S.opened.isSome (openOf S).1 hok.machines hok.target hA.open_len.1 hA.open_len.2 w
  refine h.mono fun e w' hh => ?_
  obtain ⟨rfl, hbw⟩ := hh
  refine ⟨?_, hbw⟩
  unfold cRetry
  cases ho : S.opened with
  | some cs =>
    rw [if_pos (by simp)]
    unfold rC turned openOf
    dsimp only
    rw [ho]
    rfl
  | none =>
    rw [if_neg (by simp)]
    unfold rC; rw [ho]
/-- What Receive does. -/
def cReceive (S : CS) (m : MV) (frm : Int) : RecV := match S.opened with
  | none => ⟨S, false, none⟩
  | some cs => match cs with
    | .int _ k :: .int _ g :: _ => if answersB S k g m = true then cAnswered S cs m frm else ⟨S, false, none⟩
    | _ => ⟨S, false, none⟩
theorem recv_model (g : Nat) (S : CS) (p : Value) (frm : Int) (m : MV) (w : World) (h : Cl w g S p) (hA : Asks S) (hm : m.Ok) :
    Calls Try.prog 16 #[.pointer (some ⟨g, 0, none⟩), .int .i64 frm, .agg m.cells.toArray] w (RecR w g (cReceive S m frm)) := by
  unfold cReceive
  cases ho : S.opened with
  | none => exact recv_shut g S p frm m w h hm ho
  | some cs =>
    obtain ⟨k, gr, b, v, rfl, hk⟩ := hA cs ho
    exact recv_c g S p frm m w h hm k gr _ ho hk
theorem rrecv_model {S : CS} (hA : Asks S) (m : MV) (hm : m.Ok) (frm : Int) (w : World) :
    Calls Try.prog 39 #[.agg (rC S).toArray, .int .i64 frm, .agg m.cells.toArray] w (RRecR w (cReceive S m frm)) := by
  obtain ⟨i, mm, T, n, o⟩ := S
  unfold cReceive
  cases o with
  | none =>
    exact (rrecv_shut i mm T n frm m (zmsg.drop 1) rfl (req_ones 0 0 0 0 ⟨#[]⟩ 0) w).mono fun e w' hh => rrec_same (S := ⟨i, mm, T, n, none⟩) hh
  | some cs =>
    obtain ⟨k, gr, b, v, hcs, hk⟩ := hA cs rfl
    dsimp only at hcs
    subst hcs
    exact rreceive_c i mm T n frm m hm k gr _ hk rfl (req_ones _ _ _ _ _ _) w
theorem cAnswered_asks {S : CS} (h : Asks S) (m : MV) (frm : Int) : Asks (cReceive S m frm).st ∧ ∀ o, (cReceive S m frm).out = some o → Good o := by
  unfold cReceive
  cases ho : S.opened with
  | none => exact ⟨h, by intro o ho; cases ho⟩
  | some cs =>
    obtain ⟨k, g, b, v, rfl, hk⟩ := h cs ho
    show Asks (if answersB S k g m = true then cAnswered S _ m frm else ⟨S, false, none⟩).st ∧ ∀ o, (if answersB S k g m = true then cAnswered S _ m frm else (⟨S, false, none⟩ : RecV)).out = some o → Good o
    split
    · unfold cAnswered
      split
      · exact ⟨(fun cs' hc => by cases hc), by intro o ho; cases ho⟩
      · split
        · refine ⟨fun cs' hc => h cs' hc, fun o hq => ?_⟩
          injection hq with hq
          subst hq
          exact ⟨_, k, g, S.id, S.number, b, v, rfl⟩
        · exact ⟨h, by intro o ho; cases ho⟩
    · exact ⟨h, by intro o ho; cases ho⟩
/-- A client's block and its request's are of types of their own. -/
theorem Cl.put {w w' : World} {g b : Nat} {S : CS} {p : Value} {t : TypeId} {cs : Array Value} (h : Cl w g S p) (hb : Blk w b t cs) (ht : t ≠ 74 ∧ t ≠ 41) (k : Touch [b] w w') : Cl w' g S p := by
  refine h.far_of k ?_ ?_
  · simp only [List.mem_singleton]
    rintro rfl
    have h1 := h.blk
    unfold Blk at h1 hb
    rw [h1] at hb
    injection hb with hb; injection hb with _ hb
    exact ht.1 hb.symm
  · intro c hc
    simp only [List.mem_singleton]
    rintro rfl
    cases ho : S.opened with
    | none => rw [h.shut ho] at hc; cases hc
    | some cs' =>
      obtain ⟨b', _, h2, h3⟩ := h.opened cs' ho
      rw [h2] at hc
      injection hc with hc; injection hc with hc; injection hc with hc
      subst hc
      unfold Blk at h3 hb
      rw [h3] at hb
      injection hb with hb; injection hb with _ hb
      exact ht.2 hb.symm
/-- What an operation does: the client, the messages. -/
def cStep (S : CS) (x : OpV) : CS × List (List Value) :=
  if x.kind = 0 then ((cRequest S x.group x.body).st, if (cRequest S x.group x.body).code = 0 then [(cRequest S x.group x.body).out] else [])
  else if x.kind = 1 then ((cCall S x.group x.value).st, if (cCall S x.group x.value).code = 0 then [(cCall S x.group x.value).out] else [])
  else if x.kind = 2 then ((cRetry S).st, if (cRetry S).is = true then [(cRetry S).out] else [])
  else if x.kind = 3 then ((cReceive S (repM x S.number) x.frm).st, (cReceive S (repM x S.number) x.frm).out.toList)
  else (S, [])
/-- A list of messages in memory. -/
def OutsIn (w : World) (n : Nat) (v : Value) (l : List (List Value)) : Prop := ∃ A c, v = .slice A l.length c ∧ l.length ≤ c ∧ c ≤ maxLen ∧ (∀ o ∈ l, Good o) ∧ l.length ≤ 1 ∧ (∀ o, l = [o] → ∃ b, n ≤ b ∧ A = some ⟨b, 0, none⟩ ∧ Blk w b 59 o.toArray)
def StepR (w : World) (g : Nat) (r : CS × List (List Value)) (e : Ending) (w' : World) : Prop :=
  ∃ v, e = .returned (.tuple #[.agg (rC r.1).toArray, v, .bool true]) ∧ OutsIn w' w.heap.size v r.2 ∧ (∃ q, Cl w' g r.1 q) ∧ Touch [g] w w'
end Go.Proofs.Ytpbgelhjbfckcaa
/- The fields of a message: numbers. -/
namespace Go.Proofs.Ytpbgelhjbfckcaa
open Go.ChangeShapes Go.WideShapes Go.ChangeAt Go.RowKit
set_option linter.unusedVariables false
set_option linter.unusedSimpArgs false

theorem below_drew (w : World) : Below w.heap.size w w.drew := (Below.refl _ _).drew
/-- A field as cells: four functions, each with what it has captured. -/
def fv (w r z v : FuncId) (cw cr cz cv : List Value) : List Value := [.func (.func w) #[] cw.toArray, .func (.func r) #[] cr.toArray, .func (.func z) #[] cz.toArray, .func (.func v) #[] cv.toArray]
def zfield : List Value := [.nilFunc, .nilFunc, .nilFunc, .nilFunc]
abbrev at0 (b : Nat) : Value := .pointer (some ⟨b, 0, none⟩)
theorem info_field : (Try.prog.info? 101).map (·.zero) = some (some (.agg zfield.toArray)) := by kernel_rfl
theorem size_field : (Try.prog.info? 101).map (·.size) = some 4 := by kernel_rfl
theorem built_field (w r z v : FuncId) (cw cr cz cv : List Value) : Try.prog.built 101 [(0, .func (.func w) #[] cw.toArray), (1, .func (.func r) #[] cr.toArray), (2, .func (.func z) #[] cz.toArray), (3, .func (.func v) #[] cv.toArray)] = some (fv w r z v cw cr cz cv).toArray := by kernel_rfl
theorem any_c (w : World) : Calls Try.prog 70 #[] w fun e w' => e = .returned (.bool true) ∧ w = w' := by
  go_enter Try.func70, Try.ntmps70
  go_wp2_with fail
  go_ret
  exact ⟨rfl, rfl⟩
theorem nzero_c (bp b o : Nat) (x : Int) (w : World) (h1 : w.cell? ⟨bp, 0, none⟩ = some (.pointer (some ⟨b, o, none⟩))) (h2 : w.cell? ⟨b, o, none⟩ = some (.int .i64 x)) :
    Calls Try.prog 90 #[at0 bp] w fun e w' => e = .returned (.bool (decide (x = 0))) ∧ w = w' := by
  go_enter Try.func90, Try.ntmps90
  go_wp2_with fail
  go_ret
  exact ⟨by simp [BEq.beq], rfl⟩
theorem nvalid_c (bp bl bh b o : Nat) (x lo hi : Int) (w : World) (h1 : w.cell? ⟨bp, 0, none⟩ = some (.pointer (some ⟨b, o, none⟩))) (h2 : w.cell? ⟨b, o, none⟩ = some (.int .i64 x))
    (h3 : w.cell? ⟨bl, 0, none⟩ = some (.int .i64 lo)) (h4 : w.cell? ⟨bh, 0, none⟩ = some (.int .i64 hi)) :
    Calls Try.prog 91 #[at0 bp, at0 bl, at0 bh] w fun e w' => e = .returned (.bool (decide (lo ≤ x) && decide (x ≤ hi))) ∧ Below w.heap.size w w' := by
  cases hc : decide (lo ≤ x) with
  | true =>
    go_enter Try.func91, Try.ntmps91
    go_wp2_with fail
    refine wp_region_held_drew (S := fun W => W.cell? ⟨bp, 0, none⟩ = some (.pointer (some ⟨b, o, none⟩)) ∧ W.cell? ⟨b, o, none⟩ = some (.int .i64 x) ∧ W.cell? ⟨bl, 0, none⟩ = some (.int .i64 lo) ∧ W.cell? ⟨bh, 0, none⟩ = some (.int .i64 hi)) (by kernel_rfl) (⟨h1, h2, h3, h4⟩) (fun hS0 => ?_)
    refine wpAnyH_take (i := 0) (v := ?va0) rfl (by kernel_rfl) (by kernel_rfl) (by kernel_rfl) (fun _ _ _ h => h) (Or.inl ⟨by rfl, ?hya0⟩) (by assumption) ?resta0
    case hya0 => (intro w hSw; (try dsimp only at hSw); go_simp; first | done | (with_reducible rfl))
    try simp only [Act.put, List.getElem_toArray, List.getElem_cons_zero, List.getElem_cons_succ, List.setIfInBounds_toArray, List.set_cons_zero, List.set_cons_succ]
    refine wpAnyH_take (i := 1) (v := ?va1) rfl (by kernel_rfl) (by kernel_rfl) (by kernel_rfl) (fun _ _ _ h => h) (Or.inl ⟨by rfl, ?hya1⟩) (by assumption) ?resta1
    case hya1 => (intro w hSw; (try dsimp only at hSw); go_simp; first | done | (with_reducible rfl))
    try simp only [Act.put, List.getElem_toArray, List.getElem_cons_zero, List.getElem_cons_succ, List.setIfInBounds_toArray, List.set_cons_zero, List.set_cons_succ]
    refine wpAnyH_take (i := 2) (v := ?va2) rfl (by kernel_rfl) (by kernel_rfl) (by kernel_rfl) (fun _ _ _ h => h) (Or.inl ⟨by rfl, ?hya2⟩) (by assumption) ?resta2
    case hya2 => (intro w hSw; (try dsimp only at hSw); go_simp; first | done | (with_reducible rfl))
    try simp only [Act.put, List.getElem_toArray, List.getElem_cons_zero, List.getElem_cons_succ, List.setIfInBounds_toArray, List.set_cons_zero, List.set_cons_succ]
    refine wpAnyH_take (i := 3) (v := ?va3) rfl (by kernel_rfl) (by kernel_rfl) (by kernel_rfl) (fun _ _ _ h => h) (Or.inl ⟨by rfl, ?hya3⟩) (by assumption) ?resta3
    case hya3 => (intro w hSw; (try dsimp only at hSw); go_simp; first | done | (with_reducible rfl))
    try simp only [Act.put, List.getElem_toArray, List.getElem_cons_zero, List.getElem_cons_succ, List.setIfInBounds_toArray, List.set_cons_zero, List.set_cons_succ]
    refine wpAnyH_take (i := 4) (v := ?va4) rfl (by kernel_rfl) (by kernel_rfl) (by kernel_rfl) (fun _ _ _ h => h) (Or.inl ⟨by rfl, ?hya4⟩) (by assumption) ?resta4
    case hya4 => (intro w hSw; (try dsimp only at hSw); go_simp; first | done | (with_reducible rfl))
    try simp only [Act.put, List.getElem_toArray, List.getElem_cons_zero, List.getElem_cons_succ, List.setIfInBounds_toArray, List.set_cons_zero, List.set_cons_succ]
    refine wpAnyH_take (i := 5) (v := ?va5) rfl (by kernel_rfl) (by kernel_rfl) (by kernel_rfl) (fun _ _ _ h => h) (Or.inl ⟨by rfl, ?hya5⟩) (by assumption) ?resta5
    case hya5 => (intro w hSw; (try dsimp only at hSw); go_simp; first | done | (with_reducible rfl))
    try simp only [Act.put, List.getElem_toArray, List.getElem_cons_zero, List.getElem_cons_succ, List.setIfInBounds_toArray, List.set_cons_zero, List.set_cons_succ]
    refine wpAnyH_take (i := 6) (v := ?va6) rfl (by kernel_rfl) (by kernel_rfl) (by kernel_rfl) (fun _ _ _ h => h) (Or.inl ⟨by rfl, ?hya6⟩) (by assumption) ?resta6
    case hya6 => (intro w hSw; (try dsimp only at hSw); go_simp; first | done | (with_reducible rfl))
    try simp only [Act.put, List.getElem_toArray, List.getElem_cons_zero, List.getElem_cons_succ, List.setIfInBounds_toArray, List.set_cons_zero, List.set_cons_succ]
    refine wpAnyH_take (i := 7) (v := ?va7) rfl (by kernel_rfl) (by kernel_rfl) (by kernel_rfl) (fun _ _ _ h => h) (Or.inl ⟨by rfl, ?hya7⟩) (by assumption) ?resta7
    case hya7 => (intro w hSw; (try dsimp only at hSw); go_simp; first | done | (with_reducible rfl))
    try simp only [Act.put, List.getElem_toArray, List.getElem_cons_zero, List.getElem_cons_succ, List.setIfInBounds_toArray, List.set_cons_zero, List.set_cons_succ]
    refine wpAnyH_take (i := 8) (v := ?va8) rfl (by kernel_rfl) (by kernel_rfl) (by kernel_rfl) (fun _ _ _ h => h) (Or.inl ⟨by rfl, ?hya8⟩) (by assumption) ?resta8
    case hya8 => (intro w hSw; (try dsimp only at hSw); go_simp; first | done | (with_reducible rfl))
    try simp only [Act.put, List.getElem_toArray, List.getElem_cons_zero, List.getElem_cons_succ, List.setIfInBounds_toArray, List.set_cons_zero, List.set_cons_succ]
    refine wpAnyH_take (i := 9) (v := ?va9) rfl (by kernel_rfl) (by kernel_rfl) (by kernel_rfl) (fun _ _ _ h => h) (Or.inl ⟨by rfl, ?hya9⟩) (by assumption) ?resta9
    case hya9 => (intro w hSw; (try dsimp only at hSw); go_simp; first | done | (with_reducible rfl))
    try simp only [Act.put, List.getElem_toArray, List.getElem_cons_zero, List.getElem_cons_succ, List.setIfInBounds_toArray, List.set_cons_zero, List.set_cons_succ]
    refine wpAnyH_take (i := 10) (v := ?va10) rfl (by kernel_rfl) (by kernel_rfl) (by kernel_rfl) (fun _ _ _ h => h) (Or.inl ⟨by rfl, ?hya10⟩) (by assumption) ?resta10
    case hya10 => (intro w hSw; (try dsimp only at hSw); go_simp; first | done | (with_reducible rfl))
    try simp only [Act.put, List.getElem_toArray, List.getElem_cons_zero, List.getElem_cons_succ, List.setIfInBounds_toArray, List.set_cons_zero, List.set_cons_succ]
    refine wpAnyH_take (i := 11) (v := ?va11) rfl (by kernel_rfl) (by kernel_rfl) (by kernel_rfl) (fun _ _ _ h => h) (Or.inl ⟨by rfl, ?hya11⟩) (by assumption) ?resta11
    case hya11 => (intro w hSw; (try dsimp only at hSw); go_simp; first | done | (with_reducible rfl))
    try simp only [Act.put, List.getElem_toArray, List.getElem_cons_zero, List.getElem_cons_succ, List.setIfInBounds_toArray, List.set_cons_zero, List.set_cons_succ]
    refine wpAnyH_take (i := 12) (v := ?va12) rfl (by kernel_rfl) (by kernel_rfl) (by kernel_rfl) (fun _ _ _ h => h) (Or.inl ⟨by rfl, ?hya12⟩) (by assumption) ?resta12
    case hya12 => (intro w hSw; (try dsimp only at hSw); go_simp; first | done | (with_reducible rfl))
    try simp only [Act.put, List.getElem_toArray, List.getElem_cons_zero, List.getElem_cons_succ, List.setIfInBounds_toArray, List.set_cons_zero, List.set_cons_succ]
    refine wpAnyH_done (by kernel_rfl) ?_ _
    clear hS0
    go_wp2_with fail
    go_ret
    exact ⟨by simp, below_drew _⟩
  | false =>
    go_enter Try.func91, Try.ntmps91
    go_wp2_with fail
    refine wp_region_held_drew (S := fun W => W.cell? ⟨bp, 0, none⟩ = some (.pointer (some ⟨b, o, none⟩)) ∧ W.cell? ⟨b, o, none⟩ = some (.int .i64 x) ∧ W.cell? ⟨bl, 0, none⟩ = some (.int .i64 lo) ∧ W.cell? ⟨bh, 0, none⟩ = some (.int .i64 hi)) (by kernel_rfl) (⟨h1, h2, h3, h4⟩) (fun hS0 => ?_)
    refine wpAnyH_take (i := 0) (v := ?vb0) rfl (by kernel_rfl) (by kernel_rfl) (by kernel_rfl) (fun _ _ _ h => h) (Or.inl ⟨by rfl, ?hyb0⟩) (by assumption) ?restb0
    case hyb0 => (intro w hSw; (try dsimp only at hSw); go_simp; first | done | (with_reducible rfl))
    try simp only [Act.put, List.getElem_toArray, List.getElem_cons_zero, List.getElem_cons_succ, List.setIfInBounds_toArray, List.set_cons_zero, List.set_cons_succ]
    refine wpAnyH_take (i := 1) (v := ?vb1) rfl (by kernel_rfl) (by kernel_rfl) (by kernel_rfl) (fun _ _ _ h => h) (Or.inl ⟨by rfl, ?hyb1⟩) (by assumption) ?restb1
    case hyb1 => (intro w hSw; (try dsimp only at hSw); go_simp; first | done | (with_reducible rfl))
    try simp only [Act.put, List.getElem_toArray, List.getElem_cons_zero, List.getElem_cons_succ, List.setIfInBounds_toArray, List.set_cons_zero, List.set_cons_succ]
    refine wpAnyH_take (i := 2) (v := ?vb2) rfl (by kernel_rfl) (by kernel_rfl) (by kernel_rfl) (fun _ _ _ h => h) (Or.inl ⟨by rfl, ?hyb2⟩) (by assumption) ?restb2
    case hyb2 => (intro w hSw; (try dsimp only at hSw); go_simp; first | done | (with_reducible rfl))
    try simp only [Act.put, List.getElem_toArray, List.getElem_cons_zero, List.getElem_cons_succ, List.setIfInBounds_toArray, List.set_cons_zero, List.set_cons_succ]
    refine wpAnyH_take (i := 3) (v := ?vb3) rfl (by kernel_rfl) (by kernel_rfl) (by kernel_rfl) (fun _ _ _ h => h) (Or.inl ⟨by rfl, ?hyb3⟩) (by assumption) ?restb3
    case hyb3 => (intro w hSw; (try dsimp only at hSw); go_simp; first | done | (with_reducible rfl))
    try simp only [Act.put, List.getElem_toArray, List.getElem_cons_zero, List.getElem_cons_succ, List.setIfInBounds_toArray, List.set_cons_zero, List.set_cons_succ]
    refine wpAnyH_take (i := 4) (v := ?vb4) rfl (by kernel_rfl) (by kernel_rfl) (by kernel_rfl) (fun _ _ _ h => h) (Or.inl ⟨by rfl, ?hyb4⟩) (by assumption) ?restb4
    case hyb4 => (intro w hSw; (try dsimp only at hSw); go_simp; first | done | (with_reducible rfl))
    try simp only [Act.put, List.getElem_toArray, List.getElem_cons_zero, List.getElem_cons_succ, List.setIfInBounds_toArray, List.set_cons_zero, List.set_cons_succ]
    refine wpAnyH_take (i := 5) (v := ?vb5) rfl (by kernel_rfl) (by kernel_rfl) (by kernel_rfl) (fun _ _ _ h => h) (Or.inl ⟨by rfl, ?hyb5⟩) (by assumption) ?restb5
    case hyb5 => (intro w hSw; (try dsimp only at hSw); go_simp; first | done | (with_reducible rfl))
    try simp only [Act.put, List.getElem_toArray, List.getElem_cons_zero, List.getElem_cons_succ, List.setIfInBounds_toArray, List.set_cons_zero, List.set_cons_succ]
    refine wpAnyH_take (i := 6) (v := undef) rfl (by kernel_rfl) (by kernel_rfl) (by kernel_rfl) (fun _ _ _ h => h) (Or.inr ⟨by rfl, rfl⟩) (by assumption) ?restb6
    try simp only [Act.put, List.getElem_toArray, List.getElem_cons_zero, List.getElem_cons_succ, List.setIfInBounds_toArray, List.set_cons_zero, List.set_cons_succ]
    refine wpAnyH_take (i := 7) (v := undef) rfl (by kernel_rfl) (by kernel_rfl) (by kernel_rfl) (fun _ _ _ h => h) (Or.inr ⟨by rfl, rfl⟩) (by assumption) ?restb7
    try simp only [Act.put, List.getElem_toArray, List.getElem_cons_zero, List.getElem_cons_succ, List.setIfInBounds_toArray, List.set_cons_zero, List.set_cons_succ]
    refine wpAnyH_take (i := 8) (v := undef) rfl (by kernel_rfl) (by kernel_rfl) (by kernel_rfl) (fun _ _ _ h => h) (Or.inr ⟨by rfl, rfl⟩) (by assumption) ?restb8
    try simp only [Act.put, List.getElem_toArray, List.getElem_cons_zero, List.getElem_cons_succ, List.setIfInBounds_toArray, List.set_cons_zero, List.set_cons_succ]
    refine wpAnyH_take (i := 9) (v := undef) rfl (by kernel_rfl) (by kernel_rfl) (by kernel_rfl) (fun _ _ _ h => h) (Or.inr ⟨by rfl, rfl⟩) (by assumption) ?restb9
    try simp only [Act.put, List.getElem_toArray, List.getElem_cons_zero, List.getElem_cons_succ, List.setIfInBounds_toArray, List.set_cons_zero, List.set_cons_succ]
    refine wpAnyH_take (i := 10) (v := undef) rfl (by kernel_rfl) (by kernel_rfl) (by kernel_rfl) (fun _ _ _ h => h) (Or.inr ⟨by rfl, rfl⟩) (by assumption) ?restb10
    try simp only [Act.put, List.getElem_toArray, List.getElem_cons_zero, List.getElem_cons_succ, List.setIfInBounds_toArray, List.set_cons_zero, List.set_cons_succ]
    refine wpAnyH_take (i := 11) (v := ?vb11) rfl (by kernel_rfl) (by kernel_rfl) (by kernel_rfl) (fun _ _ _ h => h) (Or.inl ⟨by rfl, ?hyb11⟩) (by assumption) ?restb11
    case hyb11 => (intro w hSw; (try dsimp only at hSw); go_simp; first | done | (with_reducible rfl))
    try simp only [Act.put, List.getElem_toArray, List.getElem_cons_zero, List.getElem_cons_succ, List.setIfInBounds_toArray, List.set_cons_zero, List.set_cons_succ]
    refine wpAnyH_take (i := 12) (v := ?vb12) rfl (by kernel_rfl) (by kernel_rfl) (by kernel_rfl) (fun _ _ _ h => h) (Or.inl ⟨by rfl, ?hyb12⟩) (by assumption) ?restb12
    case hyb12 => (intro w hSw; (try dsimp only at hSw); go_simp; first | done | (with_reducible rfl))
    try simp only [Act.put, List.getElem_toArray, List.getElem_cons_zero, List.getElem_cons_succ, List.setIfInBounds_toArray, List.set_cons_zero, List.set_cons_succ]
    refine wpAnyH_done (by kernel_rfl) ?_ _
    clear hS0
    go_wp2_with fail
    go_ret
    exact ⟨by simp, below_drew _⟩
end Go.Proofs.Ytpbgelhjbfckcaa
/- The fields of a message: number, parts. -/
namespace Go.Proofs.Ytpbgelhjbfckcaa
open Go.ChangeShapes Go.WideShapes Go.ChangeAt Go.RowKit
set_option linter.unusedVariables false
set_option linter.unusedSimpArgs false

theorem own_boxes2 (w : World) (p x : Value) (tp tx : TypeId) : Own w [] [(w.heap.size, tp, [p]), (w.heap.size + 1, tx, [x])] ((w.alloc (.cells #[p] tp)).alloc (.cells #[x] tx)) := by
  have h1 := (Own.nil w [] (by simp)).push (t := tp) (cs := [p]) (Blk.new w tp #[p]) ((Below.refl _ _).alloc (Nat.le_refl _) _)
  have h2 := h1.push (t := tx) (cs := [x]) (Blk.new _ tx #[x]) ((Below.refl _ _).alloc (Nat.le_refl _) _)
  simpa using h2
theorem own_boxes3 (w : World) (p x y : Value) (tp tx ty : TypeId) : Own w [] [(w.heap.size, tp, [p]), (w.heap.size + 1, tx, [x]), (w.heap.size + 1 + 1, ty, [y])] (((w.alloc (.cells #[p] tp)).alloc (.cells #[x] tx)).alloc (.cells #[y] ty)) := by
  have h3 := (own_boxes2 w p x tp tx).push (t := ty) (cs := [y]) (Blk.new _ ty #[y]) ((Below.refl _ _).alloc (Nat.le_refl _) _)
  simpa using h3
/-- What number hands back. -/
def NumR (w : World) (p : Value) (lo hi : Int) (e : Ending) (w' : World) : Prop := ∃ bp bl bh, e = .returned (.agg (fv 88 89 90 91 [at0 bp] [at0 bp] [at0 bp] [at0 bp, at0 bl, at0 bh]).toArray) ∧ Own w [] [(bp, 121, [p]), (bl, 3, [.int .i64 lo]), (bh, 3, [.int .i64 hi])] w'
theorem number_cV (q : Option Addr) (lo hi : Int) (w : World) : Calls Try.prog 60 #[.pointer q, .int .i64 lo, .int .i64 hi] w (NumR w (.pointer q) lo hi) := by
  have hmf : ∀ (fn : Fn) (first cap : Array Value) (w : World), (Instr.makeFunc fn first cap).run Try.prog w = .ok (.func fn first cap) w := fun _ _ _ _ => rfl
  have HO := hide (own_boxes3 w (.pointer q) (.int .i64 lo) (.int .i64 hi) 121 3 3)
  go_enter Try.func60, Try.ntmps60
  go_wp2_with (first
    | ((with_reducible refine at_alloc 101 ?_); refine wpList_alloc_own HO.out rfl 101 rfl zfield info_field ?_; intro WA b hO; replace HO := hide hO; clear hO)
    | ((with_reducible refine at_store 101 (.tmp 6) ?_); refine wpList_store_own HO.out rfl 101 (.tmp 6) (.tmp 11) rfl 3 _ 0 _ _ (fv 88 89 90 91 [at0 w.heap.size] [at0 w.heap.size] [at0 w.heap.size] [at0 w.heap.size, at0 (w.heap.size + 1), at0 (w.heap.size + 1 + 1)]) (fv 88 89 90 91 [at0 w.heap.size] [at0 w.heap.size] [at0 w.heap.size] [at0 w.heap.size, at0 (w.heap.size + 1), at0 (w.heap.size + 1 + 1)]) rfl _ rfl rfl (fits_agg _) (by simp [fv, zfield]) rfl size_field rfl ?_; intro WA hO; replace HO := hide hO; clear hO))
  refine bodyPost_ret (v := .agg (fv 88 89 90 91 [at0 w.heap.size] [at0 w.heap.size] [at0 w.heap.size] [at0 w.heap.size, at0 (w.heap.size + 1), at0 (w.heap.size + 1 + 1)]).toArray) (results_cell_row rfl _ _ b 101 _ (0, 0) _ rfl (HO.out.blk 3 rfl) Try.underlying101 rfl size_field) rfl ?_
  exact ⟨_, _, _, rfl, HO.out.sub (by simp)⟩
/-- What parts hands back. -/
def PartsR (w : World) (vn vl : Value) (e : Ending) (w' : World) : Prop := ∃ bn bl, e = .returned (.agg (fv 82 84 86 70 [at0 bn, at0 bl] [at0 bn, at0 bl] [at0 bn, at0 bl] []).toArray) ∧ Own w [] [(bn, 125, [vn]), (bl, 127, [vl])] w'
theorem parts_c (A : Option Addr) (n c : Nat) (B : Option Addr) (m k : Nat) (w : World) : Calls Try.prog 51 #[.slice A n c, .slice B m k] w (PartsR w (.slice A n c) (.slice B m k)) := by
  have hmf : ∀ (fn : Fn) (first cap : Array Value) (w : World), (Instr.makeFunc fn first cap).run Try.prog w = .ok (.func fn first cap) w := fun _ _ _ _ => rfl
  have HO := hide (own_boxes2 w (.slice A n c) (.slice B m k) 125 127)
  go_enter Try.func51, Try.ntmps51
  go_wp2_with (first
    | ((with_reducible refine at_alloc 101 ?_); refine wpList_alloc_own HO.out rfl 101 rfl zfield info_field ?_; intro WA b hO; replace HO := hide hO; clear hO)
    | ((with_reducible refine at_store 101 (.tmp 4) ?_); refine wpList_store_own HO.out rfl 101 (.tmp 4) (.tmp 8) rfl 2 _ 0 _ _ (fv 82 84 86 70 [at0 w.heap.size, at0 (w.heap.size + 1)] [at0 w.heap.size, at0 (w.heap.size + 1)] [at0 w.heap.size, at0 (w.heap.size + 1)] []) (fv 82 84 86 70 [at0 w.heap.size, at0 (w.heap.size + 1)] [at0 w.heap.size, at0 (w.heap.size + 1)] [at0 w.heap.size, at0 (w.heap.size + 1)] []) rfl _ rfl rfl (fits_agg _) (by simp [fv, zfield]) rfl size_field rfl ?_; intro WA hO; replace HO := hide hO; clear hO))
  refine bodyPost_ret (v := .agg (fv 82 84 86 70 [at0 w.heap.size, at0 (w.heap.size + 1)] [at0 w.heap.size, at0 (w.heap.size + 1)] [at0 w.heap.size, at0 (w.heap.size + 1)] []).toArray) (results_cell_row rfl _ _ b 101 _ (0, 0) _ rfl (HO.out.blk 2 rfl) Try.underlying101 rfl size_field) rfl ?_
  exact ⟨_, _, rfl, HO.out.sub (by simp)⟩
/-- A slice of pointers into the block b. -/
def Ptrs (w : World) (v : Value) (b : Nat) (offs : List Nat) : Prop := ∃ A c, v = .slice A offs.length c ∧ offs.length ≤ c ∧ c ≤ maxLen ∧ (0 < offs.length → ∃ g o, A = some ⟨g, o, none⟩ ∧ ∀ i (h : i < offs.length), w.cell? ⟨g, o + i, none⟩ = some (.pointer (some ⟨b, offs[i], none⟩)))
theorem Ptrs.nil (w : World) (b : Nat) : Ptrs w (.slice none 0 0) b [] := ⟨none, 0, rfl, Nat.le_refl _, by unfold maxLen; omega, fun h => by simp at h⟩
theorem Ptrs.form {w : World} {v : Value} {b : Nat} {offs : List Nat} (h : Ptrs w v b offs) : ∃ A n c, v = .slice A n c ∧ Hid (n = offs.length) ∧ n ≤ c ∧ c ≤ 9223372036854775807 := by
  obtain ⟨A, c, e, h1, h2, _⟩ := h; exact ⟨A, _, c, e, rfl, h1, by unfold maxLen at h2; omega⟩
theorem Ptrs.at_ {w : World} {A : Option Addr} {n c b : Nat} {offs : List Nat} (h : Ptrs w (.slice A n c) b offs) (i : Nat) (hi : i < offs.length) : ∃ g o, A = some ⟨g, o, none⟩ ∧ w.cell? ⟨g, o + i, none⟩ = some (.pointer (some ⟨b, offs[i], none⟩)) := by
  obtain ⟨A', c', e, h1, h2, h3⟩ := h
  obtain ⟨rfl, rfl, rfl⟩ : A = A' ∧ n = offs.length ∧ c = c' := by injection e with e1 e2 e3; exact ⟨e1, e2, e3⟩
  obtain ⟨g, o, rfl, hc⟩ := h3 (by omega)
  exact ⟨g, o, rfl, hc i hi⟩
/-- The numbers at some places of a row; the lengths of the lists there. -/
def numAt (cs : List Value) (o : Nat) : Int := match cs[o]? with | some (.int _ x) => x | _ => 0
def lenAt (cs : List Value) (o : Nat) : Nat := match cs[o]? with | some (.slice _ n _) => n | _ => 0
def zeroP (cs : List Value) (ns ls : List Nat) : Bool := ns.all (fun o => numAt cs o == 0) && ls.all (fun o => lenAt cs o == 0)
theorem all_snoc {p : Nat → Bool} {l : List Nat} {k : Nat} (hk : k < l.length) (hz : (l.take k).all p = true) (h : p l[k] = true) : (l.take (k + 1)).all p = true := by
  rw [List.take_add_one, List.getElem?_eq_getElem hk, List.all_append, hz]
  simp [h]
set_option maxHeartbeats 2000000 in
theorem pzero_c (bn bl b : Nat) (vn vl : Value) (ns ls : List Nat) (cs : List Value) (w : World) (h1 : w.cell? ⟨bn, 0, none⟩ = some vn) (h2 : w.cell? ⟨bl, 0, none⟩ = some vl) (hn : Ptrs w vn b ns) (hl : Ptrs w vl b ls)
    (hc : ∀ o, w.cell? ⟨b, o, none⟩ = cs[o]?) (hns : ∀ o ∈ ns, ∃ x, cs[o]? = some (.int .i64 x)) (hls : ∀ o ∈ ls, ∃ A n c, cs[o]? = some (.slice A n c)) :
    Calls Try.prog 86 #[at0 bn, at0 bl] w fun e w' => e = .returned (.bool (zeroP cs ns ls)) ∧ w = w' := by
  obtain ⟨A, n, c, rfl, hnn, hnc, hcm⟩ := hn.form
  obtain ⟨B, m, d, rfl, hmm, hmd, hdm⟩ := hl.form
  have HN := hide hn
  have HL := hide hl
  have HNS := hide hns
  have HLS := hide hls
  have HC := hide hc
  clear hn hl hns hls hc
  go_enter Try.func86, Try.ntmps86
  go_wp2_with fail
  go_loopw [9] (fun v9 wr => w = wr ∧ ∃ k : Nat, v9 = .int .i64 k ∧ k ≤ n ∧ (ns.take k).all (fun o => numAt cs o == 0) = true) (fun v9 _ => n - (intOf v9).toNat)
  case atStart => exact ⟨rfl, 0, rfl, Nat.zero_le _, rfl⟩
  case round =>
    obtain ⟨rfl, k, rfl, hk, hz⟩ := hrel
    by_cases hlt : k < n
    · have hkl : k < ns.length := by rw [← hnn.out]; exact hlt
      obtain ⟨g, o, rfl, hcp⟩ := HN.out.at_ k hkl
      obtain ⟨x, hx⟩ := HNS.out ns[k] (List.getElem_mem hkl)
      have hx2 : w.cell? ⟨b, ns[k], none⟩ = some (.int .i64 x) := (HC.out _).trans hx
      have hnx : numAt cs ns[k] = x := by unfold numAt; rw [hx]
      have hki : (k : Int) < (n : Int) := by omega
      have HLT := hide hlt
      have HZ : Hid (x = 0 → (ns.take (k + 1)).all (fun o => numAt cs o == 0) = true) := hide (fun h => all_snoc hkl hz (by simp [hnx, h]))
      have HX : Hid (x ≠ 0 → zeroP cs ns ls = false) := hide (fun h => by
        unfold zeroP
        have : ns.all (fun o => numAt cs o == 0) = false := by
          rw [List.all_eq_false]
          exact ⟨ns[k], List.getElem_mem hkl, by simp [hnx, h]⟩
        rw [this]; rfl)
      generalize ns[k] = ok at *
      clear hz hnx hx hkl hlt
      by_cases h0 : x = 0
      · subst h0
        go_wp2_with fail
        go_roundw
        case rel => exact ⟨trivial, k + 1, by go_num, HLT.out, HZ.out rfl⟩
        case measure => have := HLT.out; simp [intOf]; omega
      · go_wp2_with fail
        go_ret
        exact ⟨by rw [HX.out h0]; rfl, rfl⟩
    · obtain rfl : k = n := by omega
      have HZ1 : Hid (ns.all (fun o => numAt cs o == 0) = true) := hide (by rw [hnn.out, List.take_length] at hz; exact hz)
      clear hz hk hlt
      go_wp2_with fail
      go_loopw [20] (fun v9 wr => w = wr ∧ ∃ j : Nat, v9 = .int .i64 j ∧ j ≤ m ∧ (ls.take j).all (fun o => lenAt cs o == 0) = true) (fun v9 _ => m - (intOf v9).toNat)
      case atStart => exact ⟨rfl, 0, rfl, Nat.zero_le _, rfl⟩
      case round =>
        obtain ⟨rfl, j, rfl, hj, hz⟩ := hrel
        by_cases hlt : j < m
        · have hkl : j < ls.length := by rw [← hmm.out]; exact hlt
          obtain ⟨g, o, rfl, hcp⟩ := HL.out.at_ j hkl
          obtain ⟨Ax, nx, cx, hx⟩ := HLS.out ls[j] (List.getElem_mem hkl)
          have hx2 : w.cell? ⟨b, ls[j], none⟩ = some (.slice Ax nx cx) := (HC.out _).trans hx
          have hnx : lenAt cs ls[j] = nx := by unfold lenAt; rw [hx]
          have hki : (j : Int) < (m : Int) := by omega
          have HLT := hide hlt
          have HZ : Hid (nx = 0 → (ls.take (j + 1)).all (fun o => lenAt cs o == 0) = true) := hide (fun h => all_snoc hkl hz (by simp [hnx, h]))
          have HX : Hid (nx ≠ 0 → zeroP cs ns ls = false) := hide (fun h => by
            unfold zeroP
            have : ls.all (fun o => lenAt cs o == 0) = false := by
              rw [List.all_eq_false]
              exact ⟨ls[j], List.getElem_mem hkl, by simp [hnx, h]⟩
            rw [this]; simp)
          generalize ls[j] = ok at *
          clear hz hnx hx hkl hlt
          by_cases h0 : nx = 0
          · subst h0
            go_wp2_with fail
            go_roundw
            case rel => exact ⟨trivial, j + 1, by go_num, HLT.out, HZ.out rfl⟩
            case measure => have := HLT.out; simp [intOf]; omega
          · have h0i : (0 : Int) < (nx : Int) := by omega
            go_wp2_with fail
            go_ret
            exact ⟨by rw [HX.out h0]; rfl, rfl⟩
        · obtain rfl : j = m := by omega
          have HZ2 : Hid (zeroP cs ns ls = true) := hide (by unfold zeroP; rw [HZ1.out]; rw [hmm.out, List.take_length] at hz; rw [hz]; rfl)
          clear hz hj hlt
          go_wp2_with fail
          go_ret
          exact ⟨by rw [HZ2.out]; rfl, rfl⟩
end Go.Proofs.Ytpbgelhjbfckcaa
/- The fields of a message: what Valid calls. -/
namespace Go.Proofs.Ytpbgelhjbfckcaa
open Go.ChangeShapes Go.WideShapes Go.ChangeAt Go.RowKit
set_option linter.unusedVariables false
set_option linter.unusedSimpArgs false

theorem ba_empty (s : ByteArray) : s.toList.isEmpty = decide (s.size = 0) := by
  rw [ByteArray.toList_eq]
  obtain ⟨a⟩ := s
  show a.toList.isEmpty = decide (a.size = 0)
  rw [Array.size_eq_length_toList]
  cases a.toList <;> simp
theorem bzero_c (bm b : Nat) (s : ByteArray) (w : World) (h1 : w.cell? ⟨bm, 0, none⟩ = some (at0 b)) (h2 : w.cell? ⟨b, 5, none⟩ = some (.string s)) :
    Calls Try.prog 65 #[at0 bm] w fun e w' => e = .returned (.bool (decide (s.size = 0))) ∧ w = w' := by
  go_enter Try.func65, Try.ntmps65
  go_wp2_with fail
  go_ret
  exact ⟨by rw [← ba_empty]; rfl, rfl⟩
theorem bvalid_c (bm b : Nat) (s : ByteArray) (w : World) (h1 : w.cell? ⟨bm, 0, none⟩ = some (at0 b)) (h2 : w.cell? ⟨b, 5, none⟩ = some (.string s)) :
    Calls Try.prog 66 #[at0 bm] w fun e w' => e = .returned (.bool (decide (s.size ≤ 4096))) ∧ w = w' := by
  go_enter Try.func66, Try.ntmps66
  go_wp2_with fail
  go_ret
  exact ⟨by congr 2; simp; omega, rfl⟩
theorem vzero_c (bm b : Nat) (x : Int) (w : World) (h1 : w.cell? ⟨bm, 0, none⟩ = some (at0 b)) (h2 : w.cell? ⟨b, 17, none⟩ = some (.int .i64 x)) :
    Calls Try.prog 69 #[at0 bm] w fun e w' => e = .returned (.bool (decide (x = 0))) ∧ w = w' := by
  go_enter Try.func69, Try.ntmps69
  go_wp2_with fail
  go_ret
  exact ⟨by simp [BEq.beq], rfl⟩
theorem all_snocI {p : Int → Bool} {l : List Int} {k : Nat} (hk : k < l.length) (hz : (l.take k).all p = true) (h : p l[k] = true) : (l.take (k + 1)).all p = true := by
  rw [List.take_add_one, List.getElem?_eq_getElem hk, List.all_append, hz]
  simp [h]
/-- A message of a group is zero. -/
def gmZ (l : List Int) (gr dn : Bool) : Bool := l.all (· == 0) && !gr && !dn
theorem size_gm : (Try.prog.info? 39).map (·.size) = some 13 := by kernel_rfl
set_option maxRecDepth 100000 in
set_option maxHeartbeats 4000000 in
theorem isZero_c (i0 i1 i2 i3 i4 i5 i6 i7 i8 : Int) (gr dn : Bool) (A : Option Addr) (n c : Nat) (d : ByteArray) (w : World) :
    Calls Try.prog 76 #[.agg ([.int .i64 i0, .int .i64 i1, .int .i64 i2, .int .i64 i3, .int .i64 i4, .int .i64 i5, .int .i64 i6, .int .i64 i7, .bool gr, .slice A n c, .int .i64 i8, .string d, .bool dn] : List Value).toArray] w fun e w' => e = .returned (.bool (gmZ [i0, i1, i2, i3, i4, i5, i6, i7, i8, (n : Int), (d.size : Int)] gr dn)) ∧ Below w.heap.size w w' := by
  have HO := hide (Own.nil w [] (by simp))
  go_enter Try.func76, Try.ntmps76
  go_wp2_with (first
    | ((with_reducible refine at_box 39 (.tmp 0) ?_); refine wpList_box_own HO.out rfl 39 (.tmp 0) rfl ([.int .i64 i0, .int .i64 i1, .int .i64 i2, .int .i64 i3, .int .i64 i4, .int .i64 i5, .int .i64 i6, .int .i64 i7, .bool gr, .slice A n c, .int .i64 i8, .string d, .bool dn]) rfl ?_; intro WA b hO; replace HO := hide hO; clear hO; have k0 := HO.out.cells 0 rfl))
  obtain ⟨l, hl⟩ : ∃ l : List Int, [i0, i1, i2, i3, i4, i5, i6, i7, i8, (n : Int), (d.size : Int)] = l := ⟨_, rfl⟩
  have hll : l.length = 11 := by rw [← hl]; rfl
  have hcl : ∀ k (h : k < l.length), (WA.alloc (.cells ([.int .i64 i0, .int .i64 i1, .int .i64 i2, .int .i64 i3, .int .i64 i4, .int .i64 i5, .int .i64 i6, .int .i64 i7, .int .i64 i8, .int .i64 (n : Int), .int .i64 (d.size : Int)] : List Value).toArray 3)).cell? ⟨WA.heap.size, k, none⟩ = some (.int .i64 l[k]) := fun k h => by
    rw [(Blk.new WA 3 ([.int .i64 i0, .int .i64 i1, .int .i64 i2, .int .i64 i3, .int .i64 i4, .int .i64 i5, .int .i64 i6, .int .i64 i7, .int .i64 i8, .int .i64 (n : Int), .int .i64 (d.size : Int)] : List Value).toArray).cell k]
    have e : ([.int .i64 i0, .int .i64 i1, .int .i64 i2, .int .i64 i3, .int .i64 i4, .int .i64 i5, .int .i64 i6, .int .i64 i7, .int .i64 i8, .int .i64 (n : Int), .int .i64 (d.size : Int)] : List Value) = l.map (.int .i64 ·) := by rw [← hl]; rfl
    rw [e]
    simp [h]
  have hfin := (HO.out.alloc (.cells ([.int .i64 i0, .int .i64 i1, .int .i64 i2, .int .i64 i3, .int .i64 i4, .int .i64 i5, .int .i64 i6, .int .i64 i7, .int .i64 i8, .int .i64 (n : Int), .int .i64 (d.size : Int)] : List Value).toArray 3))
  generalize WA.heap.size = bs at hcl ⊢
  generalize WA.alloc (.cells ([.int .i64 i0, .int .i64 i1, .int .i64 i2, .int .i64 i3, .int .i64 i4, .int .i64 i5, .int .i64 i6, .int .i64 i7, .int .i64 i8, .int .i64 (n : Int), .int .i64 (d.size : Int)] : List Value).toArray 3) = w1 at hcl hfin ⊢
  have HL := hide hl
  have HLL := hide hll
  have HCL := hide hcl
  have HO1 := hide hfin
  clear hl hll hcl hfin HO k0
  go_loopw [33] (fun v9 wr => w1 = wr ∧ ∃ k : Nat, v9 = .int .i64 k ∧ k ≤ 11 ∧ (l.take k).all (· == 0) = true) (fun v9 _ => 11 - (intOf v9).toNat)
  case atStart => exact ⟨rfl, 0, rfl, Nat.zero_le _, rfl⟩
  case round =>
    obtain ⟨rfl, k, rfl, hk, hz⟩ := hrel
    by_cases hlt : k < 11
    · have hkl : k < l.length := by rw [HLL.out]; exact hlt
      have hcp := HCL.out k hkl
      have hki : (k : Int) < 11 := by omega
      have HLT := hide hlt
      have HZ : Hid (l[k] = 0 → (l.take (k + 1)).all (· == 0) = true) := hide (fun h => all_snocI hkl hz (by simp [h]))
      have HX : Hid (l[k] ≠ 0 → gmZ l gr dn = false) := hide (fun h => by
        unfold gmZ
        have : l.all (· == 0) = false := by
          rw [List.all_eq_false]
          exact ⟨l[k], List.getElem_mem hkl, by simp [h]⟩
        rw [this]; rfl)
      generalize l[k] = x at *
      clear hz hkl hlt
      by_cases h0 : x = 0
      · subst h0
        go_wp2_with fail
        go_roundw
        case rel => exact ⟨trivial, k + 1, by go_num, HLT.out, HZ.out rfl⟩
        case measure => have := HLT.out; simp [intOf]; omega
      · go_wp2_with fail
        go_ret
        exact ⟨by rw [HL.out, HX.out h0]; rfl, HO1.out.below⟩
    · obtain rfl : k = 11 := by omega
      have HZ1 : Hid (l.all (· == 0) = true) := hide (by rw [List.take_of_length_le (by rw [HLL.out]; exact Nat.le_refl _)] at hz; exact hz)
      have k0 := HO1.out.cells 0 rfl
      clear hz hk hlt
      cases gr with
      | true =>
        go_wp2_with fail
        go_ret
        exact ⟨by rw [HL.out]; unfold gmZ; rw [HZ1.out]; rfl, HO1.out.below⟩
      | false =>
        go_wp2_with fail
        go_ret
        exact ⟨by rw [HL.out]; unfold gmZ; rw [HZ1.out]; simp, HO1.out.below⟩
end Go.Proofs.Ytpbgelhjbfckcaa
