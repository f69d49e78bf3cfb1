/- The reference's reading functions: GetInt, GetText, GetCount, GetBool, End. -/
import Derived.Test.YtobcomognkokmaaRefGet
namespace Go.Proofs.Ytobcomognkokmaa
open Go.ChangeShapes Go.WideShapes Go.ChangeAt Go.RowKit
set_option linter.unusedVariables false
set_option linter.unusedSimpArgs false

theorem take_ne {l : List UInt8} {m : Nat} (h : l.take m ≠ []) : l ≠ [] := by rintro rfl; simp at h
theorem drop_ne {l : List UInt8} {m : Nat} (h : l.drop m ≠ []) : l ≠ [] := by rintro rfl; simp at h
theorem ret_got2 {rv : Value} {k : IntKind} {a b : Int} (h : a = b) : Ending.returned (.tuple #[rv, .int k a]) = .returned (.tuple #[rv, .int k b]) := by rw [h]

set_option maxHeartbeats 2000000 in
theorem getInt_c (K : Option Nat) (rv : Value) (l : List UInt8) (c : Int) (w : World) (h : RVal w K rv l c) (hK : ∀ j, K = some j → j < w.heap.size) :
    Calls Try.prog 28 #[rv] w (Got w K (rInt (l, c)).1 (.int .i64 (rInt (l, c)).2)) := by
  show Calls _ _ _ _ (Got w K (rNum (l, c)).1 (.int .i64 (zag (rNum (l, c)).2)))
  obtain ⟨v, rfl, hb, hk⟩ := h
  obtain ⟨A, n, cp, rfl, hn, h1, h2⟩ := hb.formN
  obtain ⟨w0, hw0⟩ : ∃ w0, w0 = (w.alloc (.cells #[.slice A n cp, .int .i64 c] 43)).alloc (.cells #[.slice none 0 0, .int .i64 0] 43) := ⟨_, rfl⟩
  have hB0 : Below w.heap.size w w0 := by rw [hw0]; exact ((Below.refl _ _).alloc (Nat.le_refl _) _).alloc (by simp) _
  have hsz0 : w0.heap.size = w.heap.size + 2 := by rw [hw0]; simp
  have hx1 : Blk w0 w.heap.size 43 #[.slice A n cp, .int .i64 c] := by rw [hw0]; exact (Blk.new w _ _).alloc _
  have hx2 : Blk w0 (w.heap.size + 1) 43 #[.slice none 0 0, .int .i64 0] := by
    rw [hw0]; have := Blk.new (w.alloc (.cells #[.slice A n cp, .int .i64 c] 43)) 43 #[.slice none 0 0, .int .i64 0]
    simp only [World.size_alloc] at this; exact this
  have HN := hide (getNumber_c K (.agg #[.slice A n cp, .int .i64 c]) l c w0 ⟨_, rfl, hb.step hB0, hk⟩)
  have hnl := rNum_lt l c
  have hn0 : rNum (l, c) = ((rNum (l, c)).1, (rNum (l, c)).2) := rfl
  generalize (rNum (l, c)).1 = r at *
  generalize (rNum (l, c)).2 = m at *
  obtain ⟨l1, c1⟩ := r
  have HR := hide hn0
  have HX1 := hide hx1
  have HX2 := hide hx2
  have HB0 := hide hB0
  have HSZ := hide hsz0
  have HKK := hide hK
  have HW := hide hw0
  clear hb hk hx1 hx2 hB0 hsz0 hK hn0 hw0
  have HMI : Hid (∀ b : Bool, (m % 2 == 0) = b → zag m = if b then ((m / 2 : Nat) : Int) else -((m / 2 : Nat) : Int) - 1) := hide (by
    intro b hb; unfold zag; cases b <;> simp at hb <;> simp [hb])
  by_cases hm2 : m % 2 = 0
  · have hz : (((m : Int) % 2) == 0) = true := by simp; omega
    clear hm2
    have HZ := hide (HMI.out true (by simp at hz; simp; omega))
    clear HMI
    go_enter Try.func28, Try.ntmps28
    go_wp2_with fail
    rw [HW.out] at HN HSZ HX1 HX2 HB0
    refine HN.out.mono ?_
    rintro e w1 ⟨rv, rfl, hrv, hbw⟩
    have HX1' := hide (HX1.out.step hbw)
    have HX2' := hide (HX2.out.step hbw)
    have HBW : Hid (Below w.heap.size w w1) := hide (HB0.out.trans (hbw.mono HB0.out.size))
    have hsw : w.heap.size + 2 ≤ w1.heap.size := by have := hbw.size; rw [HSZ.out] at this; exact this
    have hsw1 : w.heap.size + 1 < w1.heap.size := by omega
    have hsw0 : w.heap.size < w1.heap.size := by omega
    have x10 := HX1'.out.cell 0
    have x11 := HX1'.out.cell 1
    have x20 := HX2'.out.cell 0
    have x21 := HX2'.out.cell 1
    have y10 := HX1'.out.froz 0
    have y11 := HX1'.out.froz 1
    have y20 := HX2'.out.froz 0
    have y21 := HX2'.out.froz 1
    simp only [List.getElem?_toArray, List.getElem?_cons_zero, List.getElem?_cons_succ] at x10 x11 x20 x21
    obtain ⟨v1, rfl, hb1, hk1⟩ := hrv
    obtain ⟨A1, n1, cp1, rfl, hn1, h11, h12⟩ := hb1.formN
    have HB1 : Hid (Bs w1 (.slice A1 n1 cp1) l1) := hide hb1
    have HN1 : Hid (n1 = l1.length) := hn1
    have HK1 := hide hk1
    clear hbw HN HX1 HX2 hb1 hk1
    go_wp2_with fail
    refine bodyPost_ret (v := .tuple #[.agg #[.slice A1 n1 cp1, .int .i64 c1], .int .i64 ((m : Int) / 2)]) (by simp [results, Try.results28, go_sem, x10, x11, x20, x21, hsw0, hsw1]) rfl ⟨_, ret_got2 (by rw [HZ.out]; simp), ⟨_, rfl, HB1.out.touchN (S := [w.heap.size, w.heap.size + 1]) ?ht1 ?hs1, HK1.out⟩, ?hb1⟩
    case ht1 => (repeat (with_reducible first | exact Touch.refl _ _ | refine Touch.set ?_ ?_ _ _ | refine Touch.alloc ?_ _ | refine Touch.drewN ?_ _ | refine Touch.drew ?_)) <;> (simp; done)
    case hs1 => intro hne j hj; have := HKK.out j (HK1.out hne j hj); simp; omega
    case hb1 => (repeat (with_reducible first | exact HBW.out | refine Below.alloc ?_ ?_ _ | refine Below.setCell ?_ ?_ _ | refine below_drewN ?_ _ | refine Below.drew ?_)) <;> first | (simp; done) | (have := HBW.out.size; simp; omega)
  · have hz : (((m : Int) % 2) == 0) = false := by simp; omega
    clear hm2
    have HZ := hide (HMI.out false (by simp at hz; simp; omega))
    clear HMI
    go_enter Try.func28, Try.ntmps28
    go_wp2_with fail
    rw [HW.out] at HN HSZ HX1 HX2 HB0
    refine HN.out.mono ?_
    rintro e w1 ⟨rv, rfl, hrv, hbw⟩
    have HX1' := hide (HX1.out.step hbw)
    have HX2' := hide (HX2.out.step hbw)
    have HBW : Hid (Below w.heap.size w w1) := hide (HB0.out.trans (hbw.mono HB0.out.size))
    have hsw : w.heap.size + 2 ≤ w1.heap.size := by have := hbw.size; rw [HSZ.out] at this; exact this
    have hsw1 : w.heap.size + 1 < w1.heap.size := by omega
    have hsw0 : w.heap.size < w1.heap.size := by omega
    have x10 := HX1'.out.cell 0
    have x11 := HX1'.out.cell 1
    have x20 := HX2'.out.cell 0
    have x21 := HX2'.out.cell 1
    have y10 := HX1'.out.froz 0
    have y11 := HX1'.out.froz 1
    have y20 := HX2'.out.froz 0
    have y21 := HX2'.out.froz 1
    simp only [List.getElem?_toArray, List.getElem?_cons_zero, List.getElem?_cons_succ] at x10 x11 x20 x21
    obtain ⟨v1, rfl, hb1, hk1⟩ := hrv
    obtain ⟨A1, n1, cp1, rfl, hn1, h11, h12⟩ := hb1.formN
    have HB1 : Hid (Bs w1 (.slice A1 n1 cp1) l1) := hide hb1
    have HN1 : Hid (n1 = l1.length) := hn1
    have HK1 := hide hk1
    clear hbw HN HX1 HX2 hb1 hk1
    go_wp2_with fail
    refine bodyPost_ret (v := .tuple #[.agg #[.slice A1 n1 cp1, .int .i64 c1], .int .i64 (-((m : Int) / 2) - 1)]) (by simp [results, Try.results28, go_sem, x10, x11, x20, x21, hsw0, hsw1]) rfl ⟨_, ret_got2 (by rw [HZ.out]; simp), ⟨_, rfl, HB1.out.touchN (S := [w.heap.size, w.heap.size + 1]) ?ht2 ?hs2, HK1.out⟩, ?hb2⟩
    case ht2 => (repeat (with_reducible first | exact Touch.refl _ _ | refine Touch.set ?_ ?_ _ _ | refine Touch.alloc ?_ _ | refine Touch.drewN ?_ _ | refine Touch.drew ?_)) <;> (simp; done)
    case hs2 => intro hne j hj; have := HKK.out j (HK1.out hne j hj); simp; omega
    case hb2 => (repeat (with_reducible first | exact HBW.out | refine Below.alloc ?_ ?_ _ | refine Below.setCell ?_ ?_ _ | refine below_drewN ?_ _ | refine Below.drew ?_)) <;> first | (simp; done) | (have := HBW.out.size; simp; omega)

theorem rText_of (l : List UInt8) (c : Int) : rText (l, c) = if (rNum (l, c)).1.2 ≠ 0 then ((rNum (l, c)).1, []) else if (rNum (l, c)).1.1.length < (rNum (l, c)).2 then (bad 11, []) else (((rNum (l, c)).1.1.drop (rNum (l, c)).2, 0), (rNum (l, c)).1.1.take (rNum (l, c)).2) := by
  unfold rText rNum
  by_cases hc : c = 0
  · subst hc
    simp only [if_true]
    cases parseN l with
    | none => simp [bad]
    | some p => obtain ⟨n, t⟩ := p; simp
  · simp [hc]
theorem rCount_of (x : Int) (l : List UInt8) (c : Int) : rCount x (l, c) = if (rNum (l, c)).1.2 ≠ 0 then ((rNum (l, c)).1, 0) else if x < ((rNum (l, c)).2 : Int) then (bad 8, 0) else ((rNum (l, c)).1, (rNum (l, c)).2) := by
  unfold rCount rNum
  by_cases hc : c = 0
  · subst hc
    simp only [if_true]
    cases parseN l with
    | none => simp [bad]
    | some p => obtain ⟨n, t⟩ := p; simp
  · simp [hc]

set_option maxHeartbeats 2000000 in
theorem getText_c (K : Option Nat) (rv : Value) (l : List UInt8) (c : Int) (w : World) (h : RVal w K rv l c) (hK : ∀ j, K = some j → j < w.heap.size) :
    Calls Try.prog 31 #[rv] w (Got w K (rText (l, c)).1 (.string ⟨(rText (l, c)).2.toArray⟩)) := by
  rw [rText_of]
  obtain ⟨v, rfl, hb, hk⟩ := h
  obtain ⟨A, n, cp, rfl, hn, h1, h2⟩ := hb.formN
  obtain ⟨w0, hw0⟩ : ∃ w0, w0 = (w.alloc (.cells #[.slice A n cp, .int .i64 c] 43)).alloc (.cells #[.slice none 0 0, .int .i64 0] 43) := ⟨_, rfl⟩
  have hB0 : Below w.heap.size w w0 := by rw [hw0]; exact ((Below.refl _ _).alloc (Nat.le_refl _) _).alloc (by simp) _
  have hsz0 : w0.heap.size = w.heap.size + 2 := by rw [hw0]; simp
  have hx1 : Blk w0 w.heap.size 43 #[.slice A n cp, .int .i64 c] := by rw [hw0]; exact (Blk.new w _ _).alloc _
  have hx2 : Blk w0 (w.heap.size + 1) 43 #[.slice none 0 0, .int .i64 0] := by
    rw [hw0]; have := Blk.new (w.alloc (.cells #[.slice A n cp, .int .i64 c] 43)) 43 #[.slice none 0 0, .int .i64 0]
    simp only [World.size_alloc] at this; exact this
  have HN := hide (getNumber_c K (.agg #[.slice A n cp, .int .i64 c]) l c w0 ⟨_, rfl, hb.step hB0, hk⟩)
  have hnl := rNum_lt l c
  have hn0 : rNum (l, c) = ((rNum (l, c)).1, (rNum (l, c)).2) := rfl
  generalize (rNum (l, c)).1 = r at *
  generalize (rNum (l, c)).2 = m at *
  obtain ⟨l1, c1⟩ := r
  have HR := hide hn0
  have HX1 := hide hx1
  have HX2 := hide hx2
  have HB0 := hide hB0
  have HSZ := hide hsz0
  have HKK := hide hK
  have HW := hide hw0
  clear hb hk hx1 hx2 hB0 hsz0 hK hn0 hw0
  by_cases hc1 : c1 = 0
  · subst hc1
    rw [if_neg (by simp)]
    by_cases hml : l1.length < m
    · rw [if_pos hml]
      have HML := hide hml
      clear hml
      go_enter Try.func31, Try.ntmps31
      go_wp2_with fail
      rw [HW.out] at HN HSZ HX1 HX2 HB0
      refine HN.out.mono ?_
      rintro e w1 ⟨rv, rfl, hrv, hbw⟩
      have HX1' := hide (HX1.out.step hbw)
      have HX2' := hide (HX2.out.step hbw)
      have HBW : Hid (Below w.heap.size w w1) := hide (HB0.out.trans (hbw.mono HB0.out.size))
      have hsw : w.heap.size + 2 ≤ w1.heap.size := by have := hbw.size; rw [HSZ.out] at this; exact this
      have hsw1 : w.heap.size + 1 < w1.heap.size := by omega
      have hsw0 : w.heap.size < w1.heap.size := by omega
      have x10 := HX1'.out.cell 0
      have x11 := HX1'.out.cell 1
      have x20 := HX2'.out.cell 0
      have x21 := HX2'.out.cell 1
      have y10 := HX1'.out.froz 0
      have y11 := HX1'.out.froz 1
      have y20 := HX2'.out.froz 0
      have y21 := HX2'.out.froz 1
      simp only [List.getElem?_toArray, List.getElem?_cons_zero, List.getElem?_cons_succ] at x10 x11 x20 x21
      obtain ⟨v1, rfl, hb1, hk1⟩ := hrv
      obtain ⟨A1, n1, cp1, rfl, hn1, h11, h12⟩ := hb1.formN
      have HB1 : Hid (Bs w1 (.slice A1 n1 cp1) l1) := hide hb1
      have HN1 : Hid (n1 = l1.length) := hn1
      have HK1 := hide hk1
      clear hbw HN HX1 HX2 hb1 hk1
      have hlm : (n1 : Int) < (m : Int) := by have := HML.out; have := HN1.out; omega
      go_wp2_with fail
      refine (fail_c 11 _).mono ?_
      rintro e w2 ⟨rfl, rfl⟩
      go_wp2_with fail
      refine bodyPost_ret (v := .tuple #[.agg #[.slice none 0 0, .int .i64 11], .string ⟨#[]⟩]) (by simp [results, Try.results31, go_sem, x10, x11, x20, x21, hsw0, hsw1]) rfl ⟨_, rfl, RVal.bad _ _ _, ?hb1⟩
      case hb1 => (repeat (with_reducible first | exact HBW.out | refine Below.alloc ?_ ?_ _ | refine Below.setCell ?_ ?_ _ | refine below_drewN ?_ _ | refine Below.drew ?_)) <;> first | (simp; done) | (have := HBW.out.size; simp; omega)
    · rw [if_neg hml]
      have HML := hide hml
      clear hml
      go_enter Try.func31, Try.ntmps31
      go_wp2_with fail
      rw [HW.out] at HN HSZ HX1 HX2 HB0
      refine HN.out.mono ?_
      rintro e w1 ⟨rv, rfl, hrv, hbw⟩
      have HX1' := hide (HX1.out.step hbw)
      have HX2' := hide (HX2.out.step hbw)
      have HBW : Hid (Below w.heap.size w w1) := hide (HB0.out.trans (hbw.mono HB0.out.size))
      have hsw : w.heap.size + 2 ≤ w1.heap.size := by have := hbw.size; rw [HSZ.out] at this; exact this
      have hsw1 : w.heap.size + 1 < w1.heap.size := by omega
      have hsw0 : w.heap.size < w1.heap.size := by omega
      have x10 := HX1'.out.cell 0
      have x11 := HX1'.out.cell 1
      have x20 := HX2'.out.cell 0
      have x21 := HX2'.out.cell 1
      have y10 := HX1'.out.froz 0
      have y11 := HX1'.out.froz 1
      have y20 := HX2'.out.froz 0
      have y21 := HX2'.out.froz 1
      simp only [List.getElem?_toArray, List.getElem?_cons_zero, List.getElem?_cons_succ] at x10 x11 x20 x21
      obtain ⟨v1, rfl, hb1, hk1⟩ := hrv
      obtain ⟨A1, n1, cp1, rfl, hn1, h11, h12⟩ := hb1.formN
      have HB1 : Hid (Bs w1 (.slice A1 n1 cp1) l1) := hide hb1
      have HN1 : Hid (n1 = l1.length) := hn1
      have HK1 := hide hk1
      clear hbw HN HX1 HX2 hb1 hk1
      have hlm0 : m ≤ n1 := by have := HML.out; have := HN1.out; omega
      have hlm : ¬ (n1 : Int) < (m : Int) := by omega
      have hcv := run_string_bs (((HB1.out.take hlm0).touchN (S := [w.heap.size, w.heap.size + 1]) (w' := (w1.setCell ⟨w.heap.size, 0, none⟩ (.slice A1 n1 cp1)).setCell ⟨w.heap.size, 1, none⟩ (.int .i64 0)) (by (repeat (with_reducible first | exact Touch.refl _ _ | refine Touch.set ?_ ?_ _ _ | refine Touch.alloc ?_ _ | refine Touch.drewN ?_ _ | refine Touch.drew ?_)) <;> (simp; done)) (by intro hne j hj; have := HKK.out j (HK1.out (take_ne hne) j (by rw [own_take A1 _ m _ cp1]; exact hj)); simp; omega)))
      have HD := hide (HB1.out.drop hlm0)
      have HTX : Hid (∃ tx, tx = (l1.take m).toArray) := ⟨_, rfl⟩
      by_cases hcm : cp1 = m
      · have hnm : n1 = m := by omega
        subst hcm
        subst hnm
        rw [if_pos rfl, Nat.sub_self] at HD
        generalize (l1.take n1).toArray = tx at *
        go_wp2_with fail
        refine bodyPost_ret (v := .tuple #[.agg #[.slice A1 0 0, .int .i64 0], .string ⟨tx⟩]) (by simp [results, Try.results31, go_sem, x10, x11, x20, x21, hsw0, hsw1]) rfl ⟨_, rfl, ⟨_, rfl, HD.out.touchN (S := [w.heap.size, w.heap.size + 1]) ?ht2 ?hs2, fun hne j hj => HK1.out (drop_ne hne) j (by rw [own_take A1 _ 0 _ 0]; exact hj)⟩, ?hb2⟩
        case ht2 => (repeat (with_reducible first | exact Touch.refl _ _ | refine Touch.set ?_ ?_ _ _ | refine Touch.alloc ?_ _ | refine Touch.drewN ?_ _ | refine Touch.drew ?_)) <;> (simp; done)
        case hs2 => intro hne j hj; have := HKK.out j (HK1.out (drop_ne hne) j (by rw [own_take A1 _ 0 _ 0]; exact hj)); simp; omega
        case hb2 => (repeat (with_reducible first | exact HBW.out | refine Below.alloc ?_ ?_ _ | refine Below.setCell ?_ ?_ _ | refine below_drewN ?_ _ | refine Below.drew ?_)) <;> first | (simp; done) | (have := HBW.out.size; simp; omega)
      · rw [if_neg hcm] at HD
        have HO : Hid (l1.drop m ≠ [] → ∀ j, (Value.slice (A1.map (·.add m)) (n1 - m) (cp1 - m)).ownBlock = some j → K = some j) := hide fun hne j hj => HK1.out (drop_ne hne) j (own_drop A1 _ _ cp1 _ m j (by rw [if_neg hcm]; exact hj))
        generalize (l1.take m).toArray = tx at *
        go_wp2_with fail
        refine bodyPost_ret (v := .tuple #[.agg #[.slice (A1.map (·.add m)) (n1 - m) (cp1 - m), .int .i64 0], .string ⟨tx⟩]) (by simp [results, Try.results31, go_sem, x10, x11, x20, x21, hsw0, hsw1]) rfl ⟨_, rfl, ⟨_, rfl, HD.out.touchN (S := [w.heap.size, w.heap.size + 1]) ?ht3 ?hs3, HO.out⟩, ?hb3⟩
        case ht3 => (repeat (with_reducible first | exact Touch.refl _ _ | refine Touch.set ?_ ?_ _ _ | refine Touch.alloc ?_ _ | refine Touch.drewN ?_ _ | refine Touch.drew ?_)) <;> (simp; done)
        case hs3 => intro hne j hj; have := HKK.out j (HO.out hne j hj); simp; omega
        case hb3 => (repeat (with_reducible first | exact HBW.out | refine Below.alloc ?_ ?_ _ | refine Below.setCell ?_ ?_ _ | refine below_drewN ?_ _ | refine Below.drew ?_)) <;> first | (simp; done) | (have := HBW.out.size; simp; omega)
  · rw [if_pos hc1]
    have hcb : (c1 == 0) = false := by simpa using hc1
    clear hc1
    go_enter Try.func31, Try.ntmps31
    go_wp2_with fail
    rw [HW.out] at HN HSZ HX1 HX2 HB0
    refine HN.out.mono ?_
    rintro e w1 ⟨rv, rfl, hrv, hbw⟩
    have HX1' := hide (HX1.out.step hbw)
    have HX2' := hide (HX2.out.step hbw)
    have HBW : Hid (Below w.heap.size w w1) := hide (HB0.out.trans (hbw.mono HB0.out.size))
    have hsw : w.heap.size + 2 ≤ w1.heap.size := by have := hbw.size; rw [HSZ.out] at this; exact this
    have hsw1 : w.heap.size + 1 < w1.heap.size := by omega
    have hsw0 : w.heap.size < w1.heap.size := by omega
    have x10 := HX1'.out.cell 0
    have x11 := HX1'.out.cell 1
    have x20 := HX2'.out.cell 0
    have x21 := HX2'.out.cell 1
    have y10 := HX1'.out.froz 0
    have y11 := HX1'.out.froz 1
    have y20 := HX2'.out.froz 0
    have y21 := HX2'.out.froz 1
    simp only [List.getElem?_toArray, List.getElem?_cons_zero, List.getElem?_cons_succ] at x10 x11 x20 x21
    obtain ⟨v1, rfl, hb1, hk1⟩ := hrv
    obtain ⟨A1, n1, cp1, rfl, hn1, h11, h12⟩ := hb1.formN
    have HB1 : Hid (Bs w1 (.slice A1 n1 cp1) l1) := hide hb1
    have HN1 : Hid (n1 = l1.length) := hn1
    have HK1 := hide hk1
    clear hbw HN HX1 HX2 hb1 hk1
    go_wp2_with fail
    refine bodyPost_ret (v := .tuple #[.agg #[.slice A1 n1 cp1, .int .i64 c1], .string ⟨#[]⟩]) (by simp [results, Try.results31, go_sem, x10, x11, x20, x21, hsw0, hsw1]) rfl ⟨_, rfl, ⟨_, rfl, HB1.out.touchN (S := [w.heap.size, w.heap.size + 1]) ?ht4 ?hs4, HK1.out⟩, ?hb4⟩
    case ht4 => (repeat (with_reducible first | exact Touch.refl _ _ | refine Touch.set ?_ ?_ _ _ | refine Touch.alloc ?_ _ | refine Touch.drewN ?_ _ | refine Touch.drew ?_)) <;> (simp; done)
    case hs4 => intro hne j hj; have := HKK.out j (HK1.out hne j hj); simp; omega
    case hb4 => (repeat (with_reducible first | exact HBW.out | refine Below.alloc ?_ ?_ _ | refine Below.setCell ?_ ?_ _ | refine below_drewN ?_ _ | refine Below.drew ?_)) <;> first | (simp; done) | (have := HBW.out.size; simp; omega)

set_option maxHeartbeats 2000000 in
theorem getCount_c (K : Option Nat) (rv : Value) (l : List UInt8) (c x : Int) (hx1 : x ≤ 9223372036854775807) (w : World) (h : RVal w K rv l c) (hK : ∀ j, K = some j → j < w.heap.size) :
    Calls Try.prog 32 #[rv, .int .i64 x] w (Got w K (rCount x (l, c)).1 (.int .i64 (rCount x (l, c)).2)) := by
  rw [rCount_of]
  obtain ⟨v, rfl, hb, hk⟩ := h
  obtain ⟨A, n, cp, rfl, hn, h1, h2⟩ := hb.formN
  obtain ⟨w0, hw0⟩ : ∃ w0, w0 = (w.alloc (.cells #[.slice A n cp, .int .i64 c] 43)).alloc (.cells #[.slice none 0 0, .int .i64 0] 43) := ⟨_, rfl⟩
  have hB0 : Below w.heap.size w w0 := by rw [hw0]; exact ((Below.refl _ _).alloc (Nat.le_refl _) _).alloc (by simp) _
  have hsz0 : w0.heap.size = w.heap.size + 2 := by rw [hw0]; simp
  have hx1 : Blk w0 w.heap.size 43 #[.slice A n cp, .int .i64 c] := by rw [hw0]; exact (Blk.new w _ _).alloc _
  have hx2 : Blk w0 (w.heap.size + 1) 43 #[.slice none 0 0, .int .i64 0] := by
    rw [hw0]; have := Blk.new (w.alloc (.cells #[.slice A n cp, .int .i64 c] 43)) 43 #[.slice none 0 0, .int .i64 0]
    simp only [World.size_alloc] at this; exact this
  have HN := hide (getNumber_c K (.agg #[.slice A n cp, .int .i64 c]) l c w0 ⟨_, rfl, hb.step hB0, hk⟩)
  have hnl := rNum_lt l c
  have hn0 : rNum (l, c) = ((rNum (l, c)).1, (rNum (l, c)).2) := rfl
  generalize (rNum (l, c)).1 = r at *
  generalize (rNum (l, c)).2 = m at *
  obtain ⟨l1, c1⟩ := r
  have HR := hide hn0
  have HX1 := hide hx1
  have HX2 := hide hx2
  have HB0 := hide hB0
  have HSZ := hide hsz0
  have HKK := hide hK
  have HW := hide hw0
  clear hb hk hx1 hx2 hB0 hsz0 hK hn0 hw0
  by_cases hc1 : c1 = 0
  · subst hc1
    rw [if_neg (by simp)]
    by_cases hml : x < (m : Int)
    · rw [if_pos hml]
      by_cases h0 : x < 0
      · clear hml
        go_enter Try.func32, Try.ntmps32
        go_wp2_with fail
        rw [HW.out] at HN HSZ HX1 HX2 HB0
        refine HN.out.mono ?_
        rintro e w1 ⟨rv, rfl, hrv, hbw⟩
        have HX1' := hide (HX1.out.step hbw)
        have HX2' := hide (HX2.out.step hbw)
        have HBW : Hid (Below w.heap.size w w1) := hide (HB0.out.trans (hbw.mono HB0.out.size))
        have hsw : w.heap.size + 2 ≤ w1.heap.size := by have := hbw.size; rw [HSZ.out] at this; exact this
        have hsw1 : w.heap.size + 1 < w1.heap.size := by omega
        have hsw0 : w.heap.size < w1.heap.size := by omega
        have x10 := HX1'.out.cell 0
        have x11 := HX1'.out.cell 1
        have x20 := HX2'.out.cell 0
        have x21 := HX2'.out.cell 1
        have y10 := HX1'.out.froz 0
        have y11 := HX1'.out.froz 1
        have y20 := HX2'.out.froz 0
        have y21 := HX2'.out.froz 1
        simp only [List.getElem?_toArray, List.getElem?_cons_zero, List.getElem?_cons_succ] at x10 x11 x20 x21
        obtain ⟨v1, rfl, hb1, hk1⟩ := hrv
        obtain ⟨A1, n1, cp1, rfl, hn1, h11, h12⟩ := hb1.formN
        have HB1 : Hid (Bs w1 (.slice A1 n1 cp1) l1) := hide hb1
        have HN1 : Hid (n1 = l1.length) := hn1
        have HK1 := hide hk1
        clear hbw HN HX1 HX2 hb1 hk1
        go_wp2_with fail
        refine (fail_c 8 _).mono ?_
        rintro e w2 ⟨rfl, rfl⟩
        go_wp2_with fail
        refine bodyPost_ret (v := .tuple #[.agg #[.slice none 0 0, .int .i64 8], .int .i64 0]) (by simp [results, Try.results32, go_sem, x10, x11, x20, x21, hsw0, hsw1]) rfl ⟨_, rfl, RVal.bad _ _ _, ?hb1⟩
        case hb1 => (repeat (with_reducible first | exact HBW.out | refine Below.alloc ?_ ?_ _ | refine Below.setCell ?_ ?_ _ | refine below_drewN ?_ _ | refine Below.drew ?_)) <;> first | (simp; done) | (have := HBW.out.size; simp; omega)
      · have h00 : 0 ≤ x := by omega
        clear h0
        go_enter Try.func32, Try.ntmps32
        go_wp2_with fail
        rw [HW.out] at HN HSZ HX1 HX2 HB0
        refine HN.out.mono ?_
        rintro e w1 ⟨rv, rfl, hrv, hbw⟩
        have HX1' := hide (HX1.out.step hbw)
        have HX2' := hide (HX2.out.step hbw)
        have HBW : Hid (Below w.heap.size w w1) := hide (HB0.out.trans (hbw.mono HB0.out.size))
        have hsw : w.heap.size + 2 ≤ w1.heap.size := by have := hbw.size; rw [HSZ.out] at this; exact this
        have hsw1 : w.heap.size + 1 < w1.heap.size := by omega
        have hsw0 : w.heap.size < w1.heap.size := by omega
        have x10 := HX1'.out.cell 0
        have x11 := HX1'.out.cell 1
        have x20 := HX2'.out.cell 0
        have x21 := HX2'.out.cell 1
        have y10 := HX1'.out.froz 0
        have y11 := HX1'.out.froz 1
        have y20 := HX2'.out.froz 0
        have y21 := HX2'.out.froz 1
        simp only [List.getElem?_toArray, List.getElem?_cons_zero, List.getElem?_cons_succ] at x10 x11 x20 x21
        obtain ⟨v1, rfl, hb1, hk1⟩ := hrv
        obtain ⟨A1, n1, cp1, rfl, hn1, h11, h12⟩ := hb1.formN
        have HB1 : Hid (Bs w1 (.slice A1 n1 cp1) l1) := hide hb1
        have HN1 : Hid (n1 = l1.length) := hn1
        have HK1 := hide hk1
        clear hbw HN HX1 HX2 hb1 hk1
        go_wp2_with fail
        refine (fail_c 8 _).mono ?_
        rintro e w2 ⟨rfl, rfl⟩
        go_wp2_with fail
        refine bodyPost_ret (v := .tuple #[.agg #[.slice none 0 0, .int .i64 8], .int .i64 0]) (by simp [results, Try.results32, go_sem, x10, x11, x20, x21, hsw0, hsw1]) rfl ⟨_, rfl, RVal.bad _ _ _, ?hb2⟩
        case hb2 => (repeat (with_reducible first | exact HBW.out | refine Below.alloc ?_ ?_ _ | refine Below.setCell ?_ ?_ _ | refine below_drewN ?_ _ | refine Below.drew ?_)) <;> first | (simp; done) | (have := HBW.out.size; simp; omega)
    · rw [if_neg hml]
      have h0 : ¬ x < 0 := by omega
      have h00 : 0 ≤ x := by omega
      have hm63 : (m : Int) ≤ 9223372036854775807 := by omega
      go_enter Try.func32, Try.ntmps32
      go_wp2_with fail
      rw [HW.out] at HN HSZ HX1 HX2 HB0
      refine HN.out.mono ?_
      rintro e w1 ⟨rv, rfl, hrv, hbw⟩
      have HX1' := hide (HX1.out.step hbw)
      have HX2' := hide (HX2.out.step hbw)
      have HBW : Hid (Below w.heap.size w w1) := hide (HB0.out.trans (hbw.mono HB0.out.size))
      have hsw : w.heap.size + 2 ≤ w1.heap.size := by have := hbw.size; rw [HSZ.out] at this; exact this
      have hsw1 : w.heap.size + 1 < w1.heap.size := by omega
      have hsw0 : w.heap.size < w1.heap.size := by omega
      have x10 := HX1'.out.cell 0
      have x11 := HX1'.out.cell 1
      have x20 := HX2'.out.cell 0
      have x21 := HX2'.out.cell 1
      have y10 := HX1'.out.froz 0
      have y11 := HX1'.out.froz 1
      have y20 := HX2'.out.froz 0
      have y21 := HX2'.out.froz 1
      simp only [List.getElem?_toArray, List.getElem?_cons_zero, List.getElem?_cons_succ] at x10 x11 x20 x21
      obtain ⟨v1, rfl, hb1, hk1⟩ := hrv
      obtain ⟨A1, n1, cp1, rfl, hn1, h11, h12⟩ := hb1.formN
      have HB1 : Hid (Bs w1 (.slice A1 n1 cp1) l1) := hide hb1
      have HN1 : Hid (n1 = l1.length) := hn1
      have HK1 := hide hk1
      clear hbw HN HX1 HX2 hb1 hk1
      go_wp2_with fail
      refine bodyPost_ret (v := .tuple #[.agg #[.slice A1 n1 cp1, .int .i64 0], .int .i64 m]) (by simp [results, Try.results32, go_sem, x10, x11, x20, x21, hsw0, hsw1]) rfl ⟨_, rfl, ⟨_, rfl, HB1.out.touchN (S := [w.heap.size, w.heap.size + 1]) ?ht3 ?hs3, HK1.out⟩, ?hb3⟩
      case ht3 => (repeat (with_reducible first | exact Touch.refl _ _ | refine Touch.set ?_ ?_ _ _ | refine Touch.alloc ?_ _ | refine Touch.drewN ?_ _ | refine Touch.drew ?_)) <;> (simp; done)
      case hs3 => intro hne j hj; have := HKK.out j (HK1.out hne j hj); simp; omega
      case hb3 => (repeat (with_reducible first | exact HBW.out | refine Below.alloc ?_ ?_ _ | refine Below.setCell ?_ ?_ _ | refine below_drewN ?_ _ | refine Below.drew ?_)) <;> first | (simp; done) | (have := HBW.out.size; simp; omega)
  · rw [if_pos hc1]
    have hcb : (c1 == 0) = false := by simpa using hc1
    clear hc1
    go_enter Try.func32, Try.ntmps32
    go_wp2_with fail
    rw [HW.out] at HN HSZ HX1 HX2 HB0
    refine HN.out.mono ?_
    rintro e w1 ⟨rv, rfl, hrv, hbw⟩
    have HX1' := hide (HX1.out.step hbw)
    have HX2' := hide (HX2.out.step hbw)
    have HBW : Hid (Below w.heap.size w w1) := hide (HB0.out.trans (hbw.mono HB0.out.size))
    have hsw : w.heap.size + 2 ≤ w1.heap.size := by have := hbw.size; rw [HSZ.out] at this; exact this
    have hsw1 : w.heap.size + 1 < w1.heap.size := by omega
    have hsw0 : w.heap.size < w1.heap.size := by omega
    have x10 := HX1'.out.cell 0
    have x11 := HX1'.out.cell 1
    have x20 := HX2'.out.cell 0
    have x21 := HX2'.out.cell 1
    have y10 := HX1'.out.froz 0
    have y11 := HX1'.out.froz 1
    have y20 := HX2'.out.froz 0
    have y21 := HX2'.out.froz 1
    simp only [List.getElem?_toArray, List.getElem?_cons_zero, List.getElem?_cons_succ] at x10 x11 x20 x21
    obtain ⟨v1, rfl, hb1, hk1⟩ := hrv
    obtain ⟨A1, n1, cp1, rfl, hn1, h11, h12⟩ := hb1.formN
    have HB1 : Hid (Bs w1 (.slice A1 n1 cp1) l1) := hide hb1
    have HN1 : Hid (n1 = l1.length) := hn1
    have HK1 := hide hk1
    clear hbw HN HX1 HX2 hb1 hk1
    go_wp2_with fail
    refine bodyPost_ret (v := .tuple #[.agg #[.slice A1 n1 cp1, .int .i64 c1], .int .i64 0]) (by simp [results, Try.results32, go_sem, x10, x11, x20, x21, hsw0, hsw1]) rfl ⟨_, rfl, ⟨_, rfl, HB1.out.touchN (S := [w.heap.size, w.heap.size + 1]) ?ht4 ?hs4, HK1.out⟩, ?hb4⟩
    case ht4 => (repeat (with_reducible first | exact Touch.refl _ _ | refine Touch.set ?_ ?_ _ _ | refine Touch.alloc ?_ _ | refine Touch.drewN ?_ _ | refine Touch.drew ?_)) <;> (simp; done)
    case hs4 => intro hne j hj; have := HKK.out j (HK1.out hne j hj); simp; omega
    case hb4 => (repeat (with_reducible first | exact HBW.out | refine Below.alloc ?_ ?_ _ | refine Below.setCell ?_ ?_ _ | refine below_drewN ?_ _ | refine Below.drew ?_)) <;> first | (simp; done) | (have := HBW.out.size; simp; omega)
end Go.Proofs.Ytobcomognkokmaa
