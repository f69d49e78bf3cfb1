/- The walks of WireStops, WireDiffers. -/
import Derived.Test.YtobcomognkokmaaWalks1
import Derived.Test.YtobcomognkokmaaRegion
namespace Go.Proofs.Ytobcomognkokmaa
set_option linter.unusedSimpArgs false
open Go.ChangeShapes Go.WideShapes Go.ChangeAt Go.RowKit
set_option linter.unusedVariables false

theorem rText_step (l : List UInt8) : (rText (l, 0)).1 = bad 11 ∨ ((rText (l, 0)).1.2 = 0 ∧ (rText (l, 0)).1.1.length < l.length) := by
  unfold rText
  simp only [if_true]
  cases h : parseN l with
  | none => exact .inl rfl
  | some p =>
    obtain ⟨n, t⟩ := p
    have := parse_len h
    by_cases ht : t.length < n
    · left; simp [ht]
    · right; simp [ht]; omega
theorem stop_text : rText (([] : List UInt8), 11) = (([], 11), []) := rfl
theorem stop_num : rNum (([] : List UInt8), 11) = (([], 11), 0) := rfl
theorem stop_int : rInt (([] : List UInt8), 11) = (([], 11), 0) := rfl
theorem stop_bool : rBool (([] : List UInt8), 11) = (([], 11), false) := rfl
theorem stop_count (x : Int) : rCount x (([] : List UInt8), 11) = (([], 11), 0) := rfl
theorem stop_end : rEnd (([] : List UInt8), 11) = 11 := rfl

/-- What WireStops's loop keeps: i texts were read. -/
def StopR (W w0 : World) (b : Nat) (k : Option Nat) (n : Nat) (vi : Value) (wr : World) : Prop :=
  ∃ (i : Nat) (l : List UInt8) (c : Int), vi = .int .i64 i ∧ i ≤ n + 1 ∧ Rd wr b k l c ∧ l.length ≤ n ∧ ((c = 0 ∧ l.length + i ≤ n) ∨ (c = 11 ∧ l = [])) ∧ Below W.heap.size W wr ∧ w0.heap.size ≤ wr.heap.size

set_option maxHeartbeats 4000000 in
theorem walkWireStops (W : World) (v0 : Value) (l0 : List UInt8) (h0 : Bs W v0 l0) (x : Int) (ws1 : (Lit.int .i64 x).wf = true) :
    Calls Try.prog 9 #[v0, .int .i64 x] W fun e w' => e = .returned (.bool true) ∧ Below W.heap.size W w' := by
  obtain ⟨hx0, hx1⟩ := i64_bd x ws1
  clear ws1
  obtain ⟨A, n, c, rfl, hn, hnc, hcm⟩ := h0.formN
  have H := hide h0
  clear h0
  by_cases h100 : 100 < n
  · have hi : (100 : Int) < (n : Int) := by omega
    go_enter Try.func9, Try.ntmps9
    go_wp2_with fail
    refine (awake_c _).mono ?_
    rintro e w1 ⟨rfl, hb⟩
    go_wp2_with fail
    go_ret
    exact ⟨rfl, hb⟩
  have hi : ¬ (100 : Int) < (n : Int) := by omega
  go_enter Try.func9, Try.ntmps9
  go_wp2_with fail
  refine (awake_c _).mono ?_
  rintro e w11 ⟨rfl, hb⟩
  have HB := hide hb
  clear hb
  replace H := hide (H.out.step HB.out)
  go_wp2_with fail
  refine (newReader_c _ l0 w11 H.out (by have := hn.out; omega)).mono ?_
  rintro e w12 ⟨b, k, rfl, hr, hb, hge, hk⟩
  have HR := hide hr
  have HK : Hid (∀ j, k = some j → j < w12.heap.size) := hide fun j hj => (hk j hj).2
  have HBG : Hid (W.heap.size ≤ b) := hide (Nat.le_trans HB.out.size hge)
  replace HB := hide (HB.out.trans (hb.mono HB.out.size))
  clear hr hb hge hk
  go_wp2_with fail
  go_loopw [6] (fun i wr => StopR W w12 b k n i wr) (fun i _ => n + 1 - (intOf i).toNat)
  case atStart => exact ⟨0, l0, 0, rfl, by omega, HR.out, by have := hn.out; omega, .inl ⟨rfl, by have := hn.out; omega⟩, HB.out, Nat.le_refl _⟩
  case round =>
    obtain ⟨i, l, c, rfl, hi, hr, hl, hc, hb, hs⟩ := hrel
    have HK' : Hid (∀ j, k = some j → j < wr.heap.size) := hide fun j hj => Nat.lt_of_lt_of_le (HK.out j hj) hs
    have HB' := hide hb
    have HS := hide hs
    clear HB HR HK H hb hs
    by_cases hlt : i ≤ n
    · have HC := hide (rdText_c b k l c wr hr (by omega) HK'.out)
      have HN : Hid (((rText (l, c)).1.2 = 0 ∧ (rText (l, c)).1.1.length + (i + 1) ≤ n) ∨ ((rText (l, c)).1.2 = 11 ∧ (rText (l, c)).1.1 = [])) := by
        unfold Hid
        rcases hc with ⟨rfl, hc⟩ | ⟨rfl, rfl⟩
        · rcases rText_step l with h | ⟨h1, h2⟩
          · rw [h]; exact .inr ⟨rfl, rfl⟩
          · exact .inl ⟨h1, by omega⟩
        · exact .inr ⟨rfl, rfl⟩
      have HLL : Hid ((rText (l, c)).1.1.length ≤ n) := hide (Nat.le_trans (rText_len l c) hl)
      clear hr hc hl
      generalize rText (l, c) = r at *
      go_wp2_with fail
      refine HC.out.mono ?_
      rintro e wn ⟨rfl, hr, ht⟩
      have HR := hide hr
      have HB2 := hide (Below.touch HB'.out ht (by simp; exact HBG.out) HB'.out.size)
      have HS2 := hide (Nat.le_trans HS.out ht.size)
      clear hr ht HC
      go_wp2_with fail
      go_roundw
      case rel => exact ⟨i + 1, _, _, by go_num, by omega, HR.out, HLL.out, HN.out, HB2.out, HS2.out⟩
      case measure => simp [intOf]; omega
    · obtain rfl : i = n + 1 := by omega
      obtain ⟨rfl, rfl⟩ : c = 11 ∧ l = [] := by
        rcases hc with ⟨_, hc⟩ | hc
        · omega
        · exact hc
      obtain ⟨w20, rfl⟩ : ∃ w20 : World, w20 = wr := ⟨_, rfl⟩
      have HR := hide hr
      have HB := HB'
      have HK := HK'
      clear hr hl HB' HK' HS
      go_wp2_with fail
      have HC := hide (end_c b k ([]) (11) w20 HR.out )
      rw [stop_end] at HC
      refine HC.out.mono ?_
      rintro e w21 ⟨rfl, rfl⟩
      clear HC
      go_wp2_with fail
      have HC := hide (left_c b k ([]) (11) w20 HR.out )
      refine HC.out.mono ?_
      rintro e w22 ⟨rfl, rfl⟩
      clear HC
      go_wp2_with fail
      have HC := hide (rdNumber_c b k ([]) (11) w20 HR.out (by simp))
      rw [stop_num] at HC
      refine HC.out.mono ?_
      rintro e w23 ⟨rfl, hr, ht⟩
      replace HR := hide hr
      replace HB := hide (Below.touch HB.out ht (by simp; exact HBG.out) HB.out.size)
      replace HK : Hid (∀ j, k = some j → j < w23.heap.size) := hide fun j hj => Nat.lt_of_lt_of_le (HK.out j hj) ht.size
      clear hr ht HC
      go_wp2_with fail
      have HC := hide (rdInt_c b k ([]) (11) w23 HR.out (by simp))
      rw [stop_int] at HC
      refine HC.out.mono ?_
      rintro e w24 ⟨rfl, hr, ht⟩
      replace HR := hide hr
      replace HB := hide (Below.touch HB.out ht (by simp; exact HBG.out) HB.out.size)
      replace HK : Hid (∀ j, k = some j → j < w24.heap.size) := hide fun j hj => Nat.lt_of_lt_of_le (HK.out j hj) ht.size
      clear hr ht HC
      go_wp2_with fail
      have HC := hide (rdBool_c b k ([]) (11) w24 HR.out (by simp))
      rw [stop_bool] at HC
      refine HC.out.mono ?_
      rintro e w25 ⟨rfl, hr, ht⟩
      replace HR := hide hr
      replace HB := hide (Below.touch HB.out ht (by simp; exact HBG.out) HB.out.size)
      replace HK : Hid (∀ j, k = some j → j < w25.heap.size) := hide fun j hj => Nat.lt_of_lt_of_le (HK.out j hj) ht.size
      clear hr ht HC
      go_wp2_with fail
      have HC := hide (rdText_c b k ([]) (11) w25 HR.out (by simp) HK.out)
      rw [stop_text] at HC
      refine HC.out.mono ?_
      rintro e w26 ⟨rfl, hr, ht⟩
      replace HR := hide hr
      replace HB := hide (Below.touch HB.out ht (by simp; exact HBG.out) HB.out.size)
      replace HK : Hid (∀ j, k = some j → j < w26.heap.size) := hide fun j hj => Nat.lt_of_lt_of_le (HK.out j hj) ht.size
      clear hr ht HC
      go_wp2_with fail
      have HC := hide (rdCount_c b k ([]) (11) x hx1 w26 HR.out (by simp) HK.out)
      rw [stop_count] at HC
      refine HC.out.mono ?_
      rintro e w27 ⟨rfl, hr, ht⟩
      replace HR := hide hr
      replace HB := hide (Below.touch HB.out ht (by simp; exact HBG.out) HB.out.size)
      replace HK : Hid (∀ j, k = some j → j < w27.heap.size) := hide fun j hj => Nat.lt_of_lt_of_le (HK.out j hj) ht.size
      clear hr ht HC
      go_wp2_with fail
      have HC := hide (left_c b k ([]) (11) w27 HR.out )
      refine HC.out.mono ?_
      rintro e w28 ⟨rfl, rfl⟩
      clear HC
      go_wp2_with fail
      have HC := hide (end_c b k ([]) (11) w27 HR.out )
      rw [stop_end] at HC
      refine HC.out.mono ?_
      rintro e w29 ⟨rfl, rfl⟩
      clear HC
      go_wp2_with fail
      go_ret
      exact ⟨rfl, HB.out⟩

/-- Whether l is the beginning of m. -/
def begB (l m : List UInt8) : Bool := decide (l.length ≤ m.length) && (m.take l.length == l)
set_option maxHeartbeats 4000000 in
theorem begins_c (v u : Value) (l m : List UInt8) (w : World) (hv : Bs w v l) (hu : Bs w u m) :
    Calls Try.prog 19 #[v, u] w fun e w' => e = .returned (.bool (begB l m)) ∧ w.drew = w' := by
  obtain ⟨A, n, ca, rfl, hn, hnc, hcm⟩ := hv.formN
  obtain ⟨B, q, cb, rfl, hq, hqc, hcb⟩ := hu.formN
  have HL := hide hv
  by_cases hle : n ≤ q
  · have HT := hide (hu.take hle)
    have hr : begB l m = (m.take n == l) := by unfold begB; rw [← hn.out, ← hq.out]; simp [hle]
    rw [hr]
    have hi : (n : Int) ≤ (q : Int) := by omega
    have hncb : n ≤ cb := by omega
    have hd : decide ((n : Int) ≤ (q : Int)) = true := by simpa using hi
    clear hv hu hr
    go_enter Try.func19, Try.ntmps19
    go_wp2_with fail
    refine wp_region_held_drew (S := (fun w' => (convert 22 9 (.slice B n cb)).run Try.prog w' = .ok (.string ⟨(m.take n).toArray⟩) w' ∧ (convert 22 9 (.slice A n ca)).run Try.prog w' = .ok (.string ⟨(l).toArray⟩) w')) (by kernel_rfl) (⟨run_string_bs HT.out.drew, run_string_bs HL.out.drew⟩) (fun hS0 => ?_)
    refine wpAnyH_take (i := 0) (v := ?vy0) rfl (by kernel_rfl) (by kernel_rfl) (by kernel_rfl) (fun _ _ _ h => h) (Or.inl ⟨by rfl, ?hyy0⟩) (by assumption) ?resty0
    case hyy0 => (intro w hSw; (try dsimp only at hSw); go_simp; first | done | (with_reducible rfl))
    try simp only [Act.put, List.getElem_toArray, List.getElem_cons_zero, List.getElem_cons_succ, List.setIfInBounds_toArray, List.set_cons_zero, List.set_cons_succ]
    refine wpAnyH_take (i := 1) (v := ?vy1) rfl (by kernel_rfl) (by kernel_rfl) (by kernel_rfl) (fun _ _ _ h => h) (Or.inl ⟨by rfl, ?hyy1⟩) (by assumption) ?resty1
    case hyy1 => (intro w hSw; (try dsimp only at hSw); go_simp; first | done | (with_reducible rfl))
    try simp only [Act.put, List.getElem_toArray, List.getElem_cons_zero, List.getElem_cons_succ, List.setIfInBounds_toArray, List.set_cons_zero, List.set_cons_succ]
    refine wpAnyH_take (i := 2) (v := ?vy2) rfl (by kernel_rfl) (by kernel_rfl) (by kernel_rfl) (fun _ _ _ h => h) (Or.inl ⟨by rfl, ?hyy2⟩) (by assumption) ?resty2
    case hyy2 => (intro w hSw; (try dsimp only at hSw); go_simp; first | done | (with_reducible rfl))
    try simp only [Act.put, List.getElem_toArray, List.getElem_cons_zero, List.getElem_cons_succ, List.setIfInBounds_toArray, List.set_cons_zero, List.set_cons_succ]
    refine wpAnyH_take (i := 3) (v := ?vy3) rfl (by kernel_rfl) (by kernel_rfl) (by kernel_rfl) (fun _ _ _ h => h) (Or.inl ⟨by rfl, ?hyy3⟩) (by assumption) ?resty3
    case hyy3 => (intro w hSw; (try dsimp only at hSw); go_simp; first | done | (with_reducible rfl))
    try simp only [Act.put, List.getElem_toArray, List.getElem_cons_zero, List.getElem_cons_succ, List.setIfInBounds_toArray, List.set_cons_zero, List.set_cons_succ]
    refine wpAnyH_take (i := 4) (v := ?vy4) rfl (by kernel_rfl) (by kernel_rfl) (by kernel_rfl) (fun _ _ _ h => h) (Or.inl ⟨by rfl, ?hyy4⟩) (by assumption) ?resty4
    case hyy4 => (intro w hSw; (try dsimp only at hSw); go_simp; first | done | (with_reducible rfl))
    try simp only [Act.put, List.getElem_toArray, List.getElem_cons_zero, List.getElem_cons_succ, List.setIfInBounds_toArray, List.set_cons_zero, List.set_cons_succ]
    refine wpAnyH_take (i := 5) (v := ?vy5) rfl (by kernel_rfl) (by kernel_rfl) (by kernel_rfl) (fun _ _ _ h => h) (Or.inl ⟨by rfl, ?hyy5⟩) (by assumption) ?resty5
    case hyy5 => (intro w hSw; (try dsimp only at hSw); go_simp; first | done | (with_reducible rfl))
    try simp only [Act.put, List.getElem_toArray, List.getElem_cons_zero, List.getElem_cons_succ, List.setIfInBounds_toArray, List.set_cons_zero, List.set_cons_succ]
    refine wpAnyH_take (i := 6) (v := ?vy6) rfl (by kernel_rfl) (by kernel_rfl) (by kernel_rfl) (fun _ _ _ h => h) (Or.inl ⟨by rfl, ?hyy6⟩) (by assumption) ?resty6
    case hyy6 => (intro w hSw; (try dsimp only at hSw); go_simp; first | done | (with_reducible rfl))
    try simp only [Act.put, List.getElem_toArray, List.getElem_cons_zero, List.getElem_cons_succ, List.setIfInBounds_toArray, List.set_cons_zero, List.set_cons_succ]
    refine wpAnyH_take (i := 7) (v := ?vy7) rfl (by kernel_rfl) (by kernel_rfl) (by kernel_rfl) (fun _ _ _ h => h) (Or.inl ⟨by rfl, ?hyy7⟩) (by assumption) ?resty7
    case hyy7 => (intro w hSw; (try dsimp only at hSw); go_simp; first | done | (with_reducible rfl))
    try simp only [Act.put, List.getElem_toArray, List.getElem_cons_zero, List.getElem_cons_succ, List.setIfInBounds_toArray, List.set_cons_zero, List.set_cons_succ]
    refine wpAnyH_take (i := 8) (v := ?vy8) rfl (by kernel_rfl) (by kernel_rfl) (by kernel_rfl) (fun _ _ _ h => h) (Or.inl ⟨by rfl, ?hyy8⟩) (by assumption) ?resty8
    case hyy8 => (intro w hSw; (try dsimp only at hSw); go_simp; first | done | (with_reducible rfl))
    try simp only [Act.put, List.getElem_toArray, List.getElem_cons_zero, List.getElem_cons_succ, List.setIfInBounds_toArray, List.set_cons_zero, List.set_cons_succ]
    refine wpAnyH_take (i := 9) (v := ?vy9) rfl (by kernel_rfl) (by kernel_rfl) (by kernel_rfl) (fun _ _ _ h => h) (Or.inl ⟨by rfl, ?hyy9⟩) (by assumption) ?resty9
    case hyy9 => (intro w hSw; (try dsimp only at hSw); go_simp; first | done | (with_reducible rfl))
    try simp only [Act.put, List.getElem_toArray, List.getElem_cons_zero, List.getElem_cons_succ, List.setIfInBounds_toArray, List.set_cons_zero, List.set_cons_succ]
    refine wpAnyH_take (i := 10) (v := ?vy10) rfl (by kernel_rfl) (by kernel_rfl) (by kernel_rfl) (fun _ _ _ h => h) (Or.inl ⟨by rfl, ?hyy10⟩) (by assumption) ?resty10
    case hyy10 => (intro w hSw; (try dsimp only at hSw); go_simp; first | done | (with_reducible rfl))
    try simp only [Act.put, List.getElem_toArray, List.getElem_cons_zero, List.getElem_cons_succ, List.setIfInBounds_toArray, List.set_cons_zero, List.set_cons_succ]
    refine wpAnyH_take (i := 11) (v := ?vy11) rfl (by kernel_rfl) (by kernel_rfl) (by kernel_rfl) (fun _ _ _ h => h) (Or.inl ⟨by rfl, ?hyy11⟩) (by assumption) ?resty11
    case hyy11 => (intro w hSw; (try dsimp only at hSw); go_simp; first | done | (with_reducible rfl))
    try simp only [Act.put, List.getElem_toArray, List.getElem_cons_zero, List.getElem_cons_succ, List.setIfInBounds_toArray, List.set_cons_zero, List.set_cons_succ]
    refine wpAnyH_take (i := 12) (v := ?vy12) rfl (by kernel_rfl) (by kernel_rfl) (by kernel_rfl) (fun _ _ _ h => h) (Or.inl ⟨by rfl, ?hyy12⟩) (by assumption) ?resty12
    case hyy12 => (intro w hSw; (try dsimp only at hSw); go_simp; first | done | (with_reducible rfl))
    try simp only [Act.put, List.getElem_toArray, List.getElem_cons_zero, List.getElem_cons_succ, List.setIfInBounds_toArray, List.set_cons_zero, List.set_cons_succ]
    refine wpAnyH_take (i := 13) (v := ?vy13) rfl (by kernel_rfl) (by kernel_rfl) (by kernel_rfl) (fun _ _ _ h => h) (Or.inl ⟨by rfl, ?hyy13⟩) (by assumption) ?resty13
    case hyy13 => (intro w hSw; (try dsimp only at hSw); go_simp; first | done | (with_reducible rfl))
    try simp only [Act.put, List.getElem_toArray, List.getElem_cons_zero, List.getElem_cons_succ, List.setIfInBounds_toArray, List.set_cons_zero, List.set_cons_succ]
    refine wpAnyH_take (i := 14) (v := ?vy14) rfl (by kernel_rfl) (by kernel_rfl) (by kernel_rfl) (fun _ _ _ h => h) (Or.inl ⟨by rfl, ?hyy14⟩) (by assumption) ?resty14
    case hyy14 => (intro w hSw; (try dsimp only at hSw); go_simp; first | done | (with_reducible rfl))
    try simp only [Act.put, List.getElem_toArray, List.getElem_cons_zero, List.getElem_cons_succ, List.setIfInBounds_toArray, List.set_cons_zero, List.set_cons_succ]
    refine wpAnyH_take (i := 15) (v := ?vy15) rfl (by kernel_rfl) (by kernel_rfl) (by kernel_rfl) (fun _ _ _ h => h) (Or.inl ⟨by rfl, ?hyy15⟩) (by assumption) ?resty15
    case hyy15 => (intro w hSw; (try dsimp only at hSw); go_simp; first | done | (with_reducible rfl))
    try simp only [Act.put, List.getElem_toArray, List.getElem_cons_zero, List.getElem_cons_succ, List.setIfInBounds_toArray, List.set_cons_zero, List.set_cons_succ]
    refine wpAnyH_done (by kernel_rfl) ?_ _
    go_wp2_with fail
    go_ret
    exact ⟨rfl, rfl⟩
  · have hr : begB l m = false := by unfold begB; rw [← hn.out, ← hq.out]; simp [hle]
    rw [hr]
    have hd : decide ((n : Int) ≤ (q : Int)) = false := by simp; omega
    clear hv hu hr
    go_enter Try.func19, Try.ntmps19
    go_wp2_with fail
    refine wp_region_held_drew (S := (fun _ => True)) (by kernel_rfl) (trivial) (fun hS0 => ?_)
    refine wpAnyH_take (i := 0) (v := ?vz0) rfl (by kernel_rfl) (by kernel_rfl) (by kernel_rfl) (fun _ _ _ h => h) (Or.inl ⟨by rfl, ?hyz0⟩) (by assumption) ?restz0
    case hyz0 => (intro w hSw; (try dsimp only at hSw); go_simp; first | done | (with_reducible rfl))
    try simp only [Act.put, List.getElem_toArray, List.getElem_cons_zero, List.getElem_cons_succ, List.setIfInBounds_toArray, List.set_cons_zero, List.set_cons_succ]
    refine wpAnyH_take (i := 1) (v := ?vz1) rfl (by kernel_rfl) (by kernel_rfl) (by kernel_rfl) (fun _ _ _ h => h) (Or.inl ⟨by rfl, ?hyz1⟩) (by assumption) ?restz1
    case hyz1 => (intro w hSw; (try dsimp only at hSw); go_simp; first | done | (with_reducible rfl))
    try simp only [Act.put, List.getElem_toArray, List.getElem_cons_zero, List.getElem_cons_succ, List.setIfInBounds_toArray, List.set_cons_zero, List.set_cons_succ]
    refine wpAnyH_take (i := 2) (v := ?vz2) rfl (by kernel_rfl) (by kernel_rfl) (by kernel_rfl) (fun _ _ _ h => h) (Or.inl ⟨by rfl, ?hyz2⟩) (by assumption) ?restz2
    case hyz2 => (intro w hSw; (try dsimp only at hSw); go_simp; first | done | (with_reducible rfl))
    try simp only [Act.put, List.getElem_toArray, List.getElem_cons_zero, List.getElem_cons_succ, List.setIfInBounds_toArray, List.set_cons_zero, List.set_cons_succ]
    refine wpAnyH_take (i := 3) (v := ?vz3) rfl (by kernel_rfl) (by kernel_rfl) (by kernel_rfl) (fun _ _ _ h => h) (Or.inl ⟨by rfl, ?hyz3⟩) (by assumption) ?restz3
    case hyz3 => (intro w hSw; (try dsimp only at hSw); go_simp; first | done | (with_reducible rfl))
    try simp only [Act.put, List.getElem_toArray, List.getElem_cons_zero, List.getElem_cons_succ, List.setIfInBounds_toArray, List.set_cons_zero, List.set_cons_succ]
    refine wpAnyH_take (i := 4) (v := ?vz4) rfl (by kernel_rfl) (by kernel_rfl) (by kernel_rfl) (fun _ _ _ h => h) (Or.inl ⟨by rfl, ?hyz4⟩) (by assumption) ?restz4
    case hyz4 => (intro w hSw; (try dsimp only at hSw); go_simp; first | done | (with_reducible rfl))
    try simp only [Act.put, List.getElem_toArray, List.getElem_cons_zero, List.getElem_cons_succ, List.setIfInBounds_toArray, List.set_cons_zero, List.set_cons_succ]
    refine wpAnyH_take (i := 5) (v := ?vz5) rfl (by kernel_rfl) (by kernel_rfl) (by kernel_rfl) (fun _ _ _ h => h) (Or.inl ⟨by rfl, ?hyz5⟩) (by assumption) ?restz5
    case hyz5 => (intro w hSw; (try dsimp only at hSw); go_simp; first | done | (with_reducible rfl))
    try simp only [Act.put, List.getElem_toArray, List.getElem_cons_zero, List.getElem_cons_succ, List.setIfInBounds_toArray, List.set_cons_zero, List.set_cons_succ]
    refine wpAnyH_take (i := 6) (v := undef) rfl (by kernel_rfl) (by kernel_rfl) (by kernel_rfl) (fun _ _ _ h => h) (Or.inr ⟨by rfl, rfl⟩) (by assumption) ?restz6
    try simp only [Act.put, List.getElem_toArray, List.getElem_cons_zero, List.getElem_cons_succ, List.setIfInBounds_toArray, List.set_cons_zero, List.set_cons_succ]
    refine wpAnyH_take (i := 7) (v := undef) rfl (by kernel_rfl) (by kernel_rfl) (by kernel_rfl) (fun _ _ _ h => h) (Or.inr ⟨by rfl, rfl⟩) (by assumption) ?restz7
    try simp only [Act.put, List.getElem_toArray, List.getElem_cons_zero, List.getElem_cons_succ, List.setIfInBounds_toArray, List.set_cons_zero, List.set_cons_succ]
    refine wpAnyH_take (i := 8) (v := undef) rfl (by kernel_rfl) (by kernel_rfl) (by kernel_rfl) (fun _ _ _ h => h) (Or.inr ⟨by rfl, rfl⟩) (by assumption) ?restz8
    try simp only [Act.put, List.getElem_toArray, List.getElem_cons_zero, List.getElem_cons_succ, List.setIfInBounds_toArray, List.set_cons_zero, List.set_cons_succ]
    refine wpAnyH_take (i := 9) (v := undef) rfl (by kernel_rfl) (by kernel_rfl) (by kernel_rfl) (fun _ _ _ h => h) (Or.inr ⟨by rfl, rfl⟩) (by assumption) ?restz9
    try simp only [Act.put, List.getElem_toArray, List.getElem_cons_zero, List.getElem_cons_succ, List.setIfInBounds_toArray, List.set_cons_zero, List.set_cons_succ]
    refine wpAnyH_take (i := 10) (v := undef) rfl (by kernel_rfl) (by kernel_rfl) (by kernel_rfl) (fun _ _ _ h => h) (Or.inr ⟨by rfl, rfl⟩) (by assumption) ?restz10
    try simp only [Act.put, List.getElem_toArray, List.getElem_cons_zero, List.getElem_cons_succ, List.setIfInBounds_toArray, List.set_cons_zero, List.set_cons_succ]
    refine wpAnyH_take (i := 11) (v := undef) rfl (by kernel_rfl) (by kernel_rfl) (by kernel_rfl) (fun _ _ _ h => h) (Or.inr ⟨by rfl, rfl⟩) (by assumption) ?restz11
    try simp only [Act.put, List.getElem_toArray, List.getElem_cons_zero, List.getElem_cons_succ, List.setIfInBounds_toArray, List.set_cons_zero, List.set_cons_succ]
    refine wpAnyH_take (i := 12) (v := undef) rfl (by kernel_rfl) (by kernel_rfl) (by kernel_rfl) (fun _ _ _ h => h) (Or.inr ⟨by rfl, rfl⟩) (by assumption) ?restz12
    try simp only [Act.put, List.getElem_toArray, List.getElem_cons_zero, List.getElem_cons_succ, List.setIfInBounds_toArray, List.set_cons_zero, List.set_cons_succ]
    refine wpAnyH_take (i := 13) (v := undef) rfl (by kernel_rfl) (by kernel_rfl) (by kernel_rfl) (fun _ _ _ h => h) (Or.inr ⟨by rfl, rfl⟩) (by assumption) ?restz13
    try simp only [Act.put, List.getElem_toArray, List.getElem_cons_zero, List.getElem_cons_succ, List.setIfInBounds_toArray, List.set_cons_zero, List.set_cons_succ]
    refine wpAnyH_take (i := 14) (v := ?vz14) rfl (by kernel_rfl) (by kernel_rfl) (by kernel_rfl) (fun _ _ _ h => h) (Or.inl ⟨by rfl, ?hyz14⟩) (by assumption) ?restz14
    case hyz14 => (intro w hSw; (try dsimp only at hSw); go_simp; first | done | (with_reducible rfl))
    try simp only [Act.put, List.getElem_toArray, List.getElem_cons_zero, List.getElem_cons_succ, List.setIfInBounds_toArray, List.set_cons_zero, List.set_cons_succ]
    refine wpAnyH_take (i := 15) (v := ?vz15) rfl (by kernel_rfl) (by kernel_rfl) (by kernel_rfl) (fun _ _ _ h => h) (Or.inl ⟨by rfl, ?hyz15⟩) (by assumption) ?restz15
    case hyz15 => (intro w hSw; (try dsimp only at hSw); go_simp; first | done | (with_reducible rfl))
    try simp only [Act.put, List.getElem_toArray, List.getElem_cons_zero, List.getElem_cons_succ, List.setIfInBounds_toArray, List.set_cons_zero, List.set_cons_succ]
    refine wpAnyH_done (by kernel_rfl) ?_ _
    go_wp2_with fail
    go_ret
    exact ⟨rfl, rfl⟩

theorem str_beq (s t : ByteArray) : (s.data == t.data) = (s.toList == t.toList) := by
  rw [ByteArray.toList_eq, ByteArray.toList_eq, Bool.eq_iff_iff, beq_iff_eq, beq_iff_eq]
  constructor
  · intro h; rw [h]
  · intro h; exact Array.toList_inj.1 h
theorem enc_begins' (a b : Nat) (ha : a < 2 ^ 64) (hb : b < 2 ^ 64) (t u : List UInt8) (h : (enc b ++ u).take (enc a ++ t).length = enc a ++ t) : a = b ∧ u.take t.length = t := by
  have h1 : enc b ++ u = enc a ++ (t ++ (enc b ++ u).drop (enc a ++ t).length) := by
    rw [← List.append_assoc]; conv => lhs; rw [← List.take_append_drop (enc a ++ t).length (enc b ++ u), h]
  have h2 := congrArg parseN h1
  rw [parseN_enc b hb, parseN_enc a ha] at h2
  injection h2 with h2
  injection h2 with h3 h4
  refine ⟨h3.symm, ?_⟩
  rw [h4, List.take_left]
theorem begB_iff (l m : List UInt8) : begB l m = true ↔ m.take l.length = l := by
  unfold begB
  simp only [Bool.and_eq_true, decide_eq_true_eq, beq_iff_eq]
  constructor
  · exact fun h => h.2
  · intro h
    refine ⟨?_, h⟩
    have := congrArg List.length h
    rw [List.length_take] at this
    omega
theorem begB_enc (a b : Nat) (ha : a < 2 ^ 64) (hb : b < 2 ^ 64) : begB (enc a) (enc b) = ((a : Int) == (b : Int)) := by
  rw [Bool.eq_iff_iff, begB_iff, beq_iff_eq]
  constructor
  · intro h
    have := enc_begins a b ha hb h
    rw [this]
  · intro h
    have : a = b := by omega
    rw [this, List.take_length]
theorem begB_int (i j : Int) (h0 : -9223372036854775808 ≤ i) (h1 : i ≤ 9223372036854775807) (g0 : -9223372036854775808 ≤ j) (g1 : j ≤ 9223372036854775807) : begB (enc (zig i)) (enc (zig j)) = (i == j) := by
  rw [begB_enc _ _ (zig_lt i h0 h1) (zig_lt j g0 g1), Bool.eq_iff_iff, beq_iff_eq, beq_iff_eq]
  constructor
  · intro h; exact zig_inj i j (by omega)
  · intro h; rw [h]
theorem begB_text (s t : ByteArray) (hs : s.size < 2 ^ 64) (ht : t.size < 2 ^ 64) : begB (encT s) (encT t) = (s.data.toList == t.data.toList) := by
  have e1 : s.data.toList.length = s.size := rfl
  have e2 : t.data.toList.length = t.size := rfl
  rw [Bool.eq_iff_iff, begB_iff, beq_iff_eq]
  unfold encT
  constructor
  · intro h
    obtain ⟨h1, h2⟩ := enc_begins' _ _ hs ht _ _ h
    rw [← h2, List.take_of_length_le (by omega)]
  · intro h
    have : s.size = t.size := by rw [← e1, ← e2, h]
    rw [h, this, List.take_length]

set_option maxHeartbeats 4000000 in
theorem walkWireDiffers (W : World) (a0 : Int) (ws0 : (Lit.int .u64 a0).wf = true) (a1 : Int) (ws1 : (Lit.int .u64 a1).wf = true) (i : Int) (ws2 : (Lit.int .i64 i).wf = true) (j : Int) (ws3 : (Lit.int .i64 j).wf = true) (s : ByteArray) (hs : s.size ≤ maxLen) (t : ByteArray) (ht : t.size ≤ maxLen) :
    Calls Try.prog 4 #[.int .u64 a0, .int .u64 a1, .int .i64 i, .int .i64 j, .string s, .string t] W fun e w' => e = .returned (.bool true) ∧ Below W.heap.size W w' := by
  obtain ⟨a, rfl, ha⟩ := u64_nat a0 ws0
  obtain ⟨b, rfl, hb64⟩ := u64_nat a1 ws1
  obtain ⟨h0, h1⟩ := i64_bd i ws2
  obtain ⟨g0, g1⟩ := i64_bd j ws3
  clear ws0 ws1 ws2 ws3
  unfold maxLen at hs ht
  by_cases hx1 : 100 < s.size
  · have hi : (100 : Int) < (s.size : Int) := by omega
    go_enter Try.func4, Try.ntmps4
    go_wp2_with fail
    refine (awake_c _).mono ?_
    rintro e w1 ⟨rfl, hb⟩
    go_wp2_with fail
    go_ret
    exact ⟨rfl, hb⟩
  have hi : ¬ (100 : Int) < (s.size : Int) := by omega
  by_cases hx2 : 100 < t.size
  · have hi2 : (100 : Int) < (t.size : Int) := by omega
    go_enter Try.func4, Try.ntmps4
    go_wp2_with fail
    refine (awake_c _).mono ?_
    rintro e w1 ⟨rfl, hb⟩
    go_wp2_with fail
    go_ret
    exact ⟨rfl, hb⟩
  have hi2 : ¬ (100 : Int) < (t.size : Int) := by omega
  have HS35 : Hid (s.size ≤ 35184372088832) := hide (by omega)
  have HT35 : Hid (t.size ≤ 35184372088832) := hide (by omega)
  have HEQ : Hid ((s.data == t.data) = (s.toList == t.toList)) := hide (str_beq s t)
  have HS64 : Hid (s.size < 2 ^ 64) := hide (by omega)
  have HT64 : Hid (t.size < 2 ^ 64) := hide (by omega)
  go_enter Try.func4, Try.ntmps4
  go_wp2_with fail
  refine (awake_c _).mono ?_
  rintro e w11 ⟨rfl, hb⟩
  have HB := hide hb
  clear hb
  go_wp2_with fail
  refine (nilNumber_c a ha w11).mono ?_
  rintro e w12 ⟨v, rfl, ho, hb⟩
  have HP := hide ho.bs
  replace HB := hide (HB.out.trans (hb.mono HB.out.size))
  obtain ⟨A0p, n0p, c0p, rfl, hq, _, _⟩ := ho.formN
  clear ho hb hq
  go_wp2_with fail
  refine (nilNumber_c b hb64 w12).mono ?_
  rintro e w13 ⟨v, rfl, ho, hb⟩
  replace HP := hide (HP.out.step hb)
  have HQ := hide ho.bs
  replace HB := hide (HB.out.trans (hb.mono HB.out.size))
  obtain ⟨A0q, n0q, c0q, rfl, hq, _, _⟩ := ho.formN
  clear ho hb hq
  go_wp2_with fail
  refine (begins_c _ _ (enc a) (enc b) w13 HP.out HQ.out).mono ?_
  rintro e w14 ⟨rfl, rfl⟩
  replace HB := hide HB.out.drew
  rw [begB_enc a b ha hb64]
  clear HP HQ
  go_wp2_with fail
  refine (nilInt_c i h0 h1 _).mono ?_
  rintro e w15 ⟨v, rfl, ho, hb⟩
  have HP := hide ho.bs
  replace HB := hide (HB.out.trans (hb.mono HB.out.size))
  obtain ⟨A1p, n1p, c1p, rfl, hq, _, _⟩ := ho.formN
  clear ho hb hq
  go_wp2_with fail
  refine (nilInt_c j g0 g1 w15).mono ?_
  rintro e w16 ⟨v, rfl, ho, hb⟩
  replace HP := hide (HP.out.step hb)
  have HQ := hide ho.bs
  replace HB := hide (HB.out.trans (hb.mono HB.out.size))
  obtain ⟨A1q, n1q, c1q, rfl, hq, _, _⟩ := ho.formN
  clear ho hb hq
  go_wp2_with fail
  refine (begins_c _ _ (enc (zig i)) (enc (zig j)) w16 HP.out HQ.out).mono ?_
  rintro e w17 ⟨rfl, rfl⟩
  replace HB := hide HB.out.drew
  rw [begB_int i j h0 h1 g0 g1]
  clear HP HQ
  go_wp2_with fail
  refine (nilText_c s HS35.out _).mono ?_
  rintro e w18 ⟨v, rfl, ho, hb⟩
  have HP := hide ho.bs
  replace HB := hide (HB.out.trans (hb.mono HB.out.size))
  obtain ⟨A2p, n2p, c2p, rfl, hq, _, _⟩ := ho.formN
  clear ho hb hq
  go_wp2_with fail
  refine (nilText_c t HT35.out w18).mono ?_
  rintro e w19 ⟨v, rfl, ho, hb⟩
  replace HP := hide (HP.out.step hb)
  have HQ := hide ho.bs
  replace HB := hide (HB.out.trans (hb.mono HB.out.size))
  obtain ⟨A2q, n2q, c2q, rfl, hq, _, _⟩ := ho.formN
  clear ho hb hq
  go_wp2_with fail
  refine (begins_c _ _ (encT s) (encT t) w19 HP.out HQ.out).mono ?_
  rintro e w20 ⟨rfl, rfl⟩
  replace HB := hide HB.out.drew
  rw [begB_text s t HS64.out HT64.out]
  clear HP HQ
  go_wp2_with fail
  go_ret
  exact ⟨ret_bool (by simp [HEQ.out]), HB.out⟩
end Go.Proofs.Ytobcomognkokmaa
