/- A reader's methods: Int, Bool, Left, End, NewReader. -/
import Derived.Test.YtobcomognkokmaaMethods
import Derived.WalkSpells
namespace Go.Proofs.Ytobcomognkokmaa
set_option linter.unusedSimpArgs false
open Go.ChangeShapes Go.WideShapes Go.ChangeAt Go.RowKit
set_option linter.unusedVariables false

theorem rNum_lt (l : List UInt8) (c : Int) : (rNum (l, c)).2 < 2 ^ 64 := by
  unfold rNum
  split
  · split
    · rename_i h; exact (parseN_some h).2
    · simp
  · simp
theorem rNum_len (l : List UInt8) (c : Int) : (rNum (l, c)).1.1.length ≤ l.length := by
  unfold rNum
  split
  · split
    · rename_i h; exact Nat.le_of_lt (parse_len h)
    · simp [bad]
  · simp

set_option maxHeartbeats 1000000 in
theorem left_c (b : Nat) (k : Option Nat) (l : List UInt8) (c : Int) (w : World) (h : Rd w b k l c) :
    Calls Try.prog 24 #[.pointer (some ⟨b, 0, none⟩)] w fun e w' => e = .returned (.int .i64 l.length) ∧ w = w' := by
  obtain ⟨v, c0, c1, f0, f1, hb⟩ := h.cells
  obtain ⟨A, cp, rfl, _, _⟩ := hb.form
  clear h hb
  generalize l.length = m at *
  go_enter Try.func24, Try.ntmps24
  go_wp2_with fail
  go_ret
  exact ⟨rfl, rfl⟩

theorem ret_i64 {a b : Int} (h : a = b) : Ending.returned (.int .i64 a) = .returned (.int .i64 b) := by rw [h]
set_option maxHeartbeats 1000000 in
theorem end_c (b : Nat) (k : Option Nat) (l : List UInt8) (c : Int) (w : World) (h : Rd w b k l c) :
    Calls Try.prog 22 #[.pointer (some ⟨b, 0, none⟩)] w fun e w' => e = .returned (.int .i64 (rEnd (l, c))) ∧ w = w' := by
  obtain ⟨v, c0, c1, f0, f1, hb⟩ := h.cells
  obtain ⟨A, cp, rfl, _, _⟩ := hb.form
  clear h hb
  by_cases hc : c = 0
  · subst hc
    by_cases hl : 0 < l.length
    · have hr : rEnd (l, 0) = 11 := by simp [rEnd, hl]
      rw [hr]
      clear hr
      generalize l.length = m at *
      have hx : (0 : Int) < (m : Int) := by omega
      go_enter Try.func22, Try.ntmps22
      go_wp2_with fail
      go_ret
      exact ⟨rfl, rfl⟩
    · have hr : rEnd (l, 0) = 0 := by simp [rEnd, hl]
      rw [hr]
      clear hr
      generalize l.length = m at *
      have hx : ¬ (0 : Int) < (m : Int) := by omega
      go_enter Try.func22, Try.ntmps22
      go_wp2_with fail
      go_ret
      exact ⟨rfl, rfl⟩
  · have hr : rEnd (l, c) = c := by simp [rEnd, hc]
    rw [hr]
    have hcb : (c == 0) = false := by simpa using hc
    clear hr hc
    generalize l.length = m at *
    go_enter Try.func22, Try.ntmps22
    go_wp2_with fail
    go_ret
    exact ⟨rfl, rfl⟩

theorem zag_bits (n : Nat) (hn : n < 2 ^ 64) : bits BinOp.xor IntKind.i64 ((n : Int) / 2) (wrap64 (-wrap64 (bits BinOp.and IntKind.u64 (n : Int) 1))) = zag n := by
  have hw : ∀ z : Int, IntKind.u64.wrap z = z % 18446744073709551616 := fun z => by simp [IntKind.wrap, IntKind.signed, IntKind.bits]
  have hs : ∀ z : Int, 0 ≤ z → z < 18446744073709551616 → IntKind.i64.wrap z = if z < 9223372036854775808 then z else z - 18446744073709551616 := fun z h0 h1 => by
    simp only [IntKind.wrap, IntKind.signed, IntKind.bits, Bool.true_and, decide_eq_true_eq]
    by_cases h : z < 9223372036854775808
    · rw [if_pos h, if_neg (by simp; omega)]; simp; omega
    · rw [if_neg h, if_pos (by simp; omega)]; simp; omega
  have ha : bits BinOp.and IntKind.u64 (n : Int) 1 = ((n % 2 : Nat) : Int) := by
    show IntKind.u64.wrap ((BitVec.ofInt 64 (n : Int) &&& BitVec.ofInt 64 1).toNat : Int) = _
    rw [hw, show (1 : Int) = ((1 : Nat) : Int) from rfl, BitVec.ofInt_natCast, BitVec.ofInt_natCast, BitVec.toNat_and, BitVec.toNat_ofNat, BitVec.toNat_ofNat, Nat.mod_eq_of_lt hn, Nat.mod_eq_of_lt (show 1 < 2 ^ 64 by decide), Nat.and_one_is_mod]
    omega
  rw [ha]
  have hd : (n : Int) / 2 = ((n / 2 : Nat) : Int) := by omega
  rw [hd]
  show IntKind.i64.wrap ((BitVec.ofInt 64 ((n / 2 : Nat) : Int) ^^^ BitVec.ofInt 64 (wrap64 (-wrap64 ((n % 2 : Nat) : Int)))).toNat : Int) = _
  unfold zag
  by_cases h2 : n % 2 = 0
  · rw [if_pos h2, h2, show wrap64 (-wrap64 ((0 : Nat) : Int)) = 0 from by decide +kernel, show BitVec.ofInt 64 0 = 0#64 from rfl, BitVec.xor_zero, BitVec.ofInt_natCast, BitVec.toNat_ofNat, Nat.mod_eq_of_lt (by omega), hs _ (by omega) (by omega), if_pos (by omega)]
  · rw [if_neg h2, show n % 2 = 1 by omega, show wrap64 (-wrap64 ((1 : Nat) : Int)) = -1 from by decide +kernel, show BitVec.ofInt 64 (-1) = BitVec.allOnes 64 from rfl, BitVec.xor_allOnes, BitVec.toNat_not, BitVec.ofInt_natCast, BitVec.toNat_ofNat, Nat.mod_eq_of_lt (show n / 2 < 2 ^ 64 by omega), hs _ (by omega) (by omega), if_neg (by omega)]
    omega
theorem zag_lt (n : Nat) (hn : n < 2 ^ 64) : -9223372036854775808 ≤ zag n ∧ zag n ≤ 9223372036854775807 := by unfold zag; split <;> omega
theorem zag_zig (i : Int) : zag (zig i) = i := by unfold zag zig; split <;> split <;> omega
theorem zig_zag (n : Nat) : zig (zag n) = n := by unfold zag zig; split <;> split <;> omega
set_option maxHeartbeats 1000000 in
theorem rdInt_c (b : Nat) (k : Option Nat) (l : List UInt8) (c : Int) (w : World) (h : Rd w b k l c) (hl : l.length ≤ 140737488355328) :
    Calls Try.prog 29 #[.pointer (some ⟨b, 0, none⟩)] w (Step1 w b k (rInt (l, c)).1 (.int .i64 (rInt (l, c)).2)) := by
  have hn := rNum_lt l c
  show Calls _ _ _ _ (Step1 w b k (rNum (l, c)).1 (.int .i64 (zag (rNum (l, c)).2)))
  have H := hide (rdNumber_c b k l c w h hl)
  clear h
  generalize (rNum (l, c)).1 = r at *
  generalize (rNum (l, c)).2 = n at *
  go_enter Try.func29, Try.ntmps29
  go_wp2_with fail
  refine H.out.mono ?_
  rintro e w1 ⟨rfl, h1, h2⟩
  have H1 := hide h1
  have H2 := hide h2
  clear h1 h2
  go_wp2_with fail
  go_ret
  exact ⟨ret_i64 (zag_bits n hn), H1.out, H2.out⟩

/-- A box that holds a pointer to the reader. -/
def BoxP (w : World) (q b : Nat) : Prop := w.cell? ⟨q, 0, none⟩ = some (.pointer (some ⟨b, 0, none⟩))
theorem boxP_new (w : World) (b : Nat) : BoxP (w.alloc (.cells #[.pointer (some ⟨b, 0, none⟩)] 32)) w.heap.size b := (Blk.new w _ _).cell 0

set_option maxHeartbeats 1000000 in
theorem boolC_nil (q b : Nat) (k : Option Nat) (w : World) (h : Rd w b k [] 0) (hq : BoxP w q b) :
    Calls Try.prog 41 #[.pointer (some ⟨q, 0, none⟩)] w (FnBad [b] w b k 11 (fun _ => True)) := by
  unfold BoxP at hq
  go_enter Try.func41, Try.ntmps41
  go_wp2_with fail
  refine (take_no b k [] 0 1 w h (by simp) (by simp)).mono ?_
  rintro e w1 ⟨rfl, rfl⟩
  go_wp2_with fail
  go_ret2
  exact ⟨rfl, ⟨[], h⟩, Touch.refl _ _, trivial⟩

set_option maxHeartbeats 1000000 in
theorem boolC_high (q b : Nat) (k : Option Nat) (x : UInt8) (t : List UInt8) (w : World) (h : Rd w b k (x :: t) 0) (hl : (x :: t).length ≤ 140737488355328) (hx : 1 < x.toNat) (hq : BoxP w q b) :
    Calls Try.prog 41 #[.pointer (some ⟨q, 0, none⟩)] w (FnBad [b] w b k 11 (fun _ => True)) := by
  unfold BoxP at hq
  have hu : (1 : Int) < u8 x := by unfold u8; omega
  have hu0 : 0 ≤ u8 x := (u8_lt x).1
  have H := hide h
  clear h hx
  go_enter Try.func41, Try.ntmps41
  go_wp2_with fail
  refine (take_yes b k (x :: t) 0 1 w H.out (by simp) hl).mono ?_
  rintro e w1 ⟨v1, rfl, hb1, hk1, hr1, hg1⟩
  obtain ⟨A1, c1, rfl, h11, h12⟩ := hb1.form
  obtain ⟨b1, off1, y, rfl, hlt1, hy, hc1⟩ := hb1.at_ (k := 0) (by simp)
  obtain rfl : x = y := by simpa using hy
  have HR := hide hr1
  have HG := hide hg1
  clear hr1 hg1 hb1 hk1 hy hq
  simp only [Nat.add_zero] at hc1
  go_wp2_with fail
  go_ret2
  exact ⟨rfl, ⟨_, HR.out⟩, Touch.one HG.out, trivial⟩

set_option maxHeartbeats 1000000 in
theorem boolC_got (q b : Nat) (k : Option Nat) (x : UInt8) (t : List UInt8) (w : World) (h : Rd w b k (x :: t) 0) (hl : (x :: t).length ≤ 140737488355328) (hx : x.toNat ≤ 1) (hq : BoxP w q b) :
    Calls Try.prog 41 #[.pointer (some ⟨q, 0, none⟩)] w (FnGot [b] w b k x.toNat t (fun _ => True)) := by
  unfold BoxP at hq
  have hu : u8 x ≤ 1 := by unfold u8; omega
  have hu0 : 0 ≤ u8 x := (u8_lt x).1
  have H := hide h
  clear h hx
  go_enter Try.func41, Try.ntmps41
  go_wp2_with fail
  refine (take_yes b k (x :: t) 0 1 w H.out (by simp) hl).mono ?_
  rintro e w1 ⟨v1, rfl, hb1, hk1, hr1, hg1⟩
  obtain ⟨A1, c1, rfl, h11, h12⟩ := hb1.form
  obtain ⟨b1, off1, y, rfl, hlt1, hy, hc1⟩ := hb1.at_ (k := 0) (by simp)
  obtain rfl : x = y := by simpa using hy
  have HR : Hid (Rd w1 b k t 0) := hide (by simpa using hr1)
  have HG := hide hg1
  clear hr1 hg1 hb1 hk1 hy hq
  simp only [Nat.add_zero] at hc1
  go_wp2_with fail
  go_ret2
  exact ⟨rfl, HR.out, Touch.one HG.out, trivial⟩

theorem touch_alloc {S : List Nat} {w w' : World} {o : Obj} (h : Touch S (w.alloc o) w') : Touch S w w' := ((Touch.refl S w).alloc o).trans h
theorem ret_bool {a b : Bool} (h : a = b) : Ending.returned (.bool a) = .returned (.bool b) := by rw [h]

set_option maxHeartbeats 1000000 in
theorem rdBool_c (b : Nat) (k : Option Nat) (l : List UInt8) (c : Int) (w : World) (h : Rd w b k l c) (hl : l.length ≤ 140737488355328) :
    Calls Try.prog 26 #[.pointer (some ⟨b, 0, none⟩)] w (Step1 w b k (rBool (l, c)).1 (.bool (rBool (l, c)).2)) := by
  have H := hide (h.alloc (.cells #[.pointer (some ⟨b, 0, none⟩)] 32))
  clear h
  have hq := boxP_new w b
  by_cases hc : c = 0
  · subst hc
    have HX : ∀ (HF : Calls Try.prog 41 #[.pointer (some ⟨w.heap.size, 0, none⟩)] (w.alloc (.cells #[.pointer (some ⟨b, 0, none⟩)] 32)) (FnBad [b] (w.alloc (.cells #[.pointer (some ⟨b, 0, none⟩)] 32)) b k 11 (fun _ => True))),
        Calls Try.prog 26 #[.pointer (some ⟨b, 0, none⟩)] w (Step1 w b k (bad 11) (.bool false)) := by
      intro HF
      have HF := hide HF
      clear hq
      go_enter Try.func26, Try.ntmps26
      go_wp2_with fail
      refine (readBool_bad w.heap.size [b] b k l 11 (by decide) (fun _ => True) _ H.out (by simp) HF.out).mono ?_
      rintro e w1 ⟨rfl, h1, h2, _⟩
      go_wp2_with fail
      go_ret
      exact ⟨rfl, h1, touch_alloc h2⟩
    cases l with
    | nil =>
      have hr : rBool ([], 0) = (bad 11, false) := rfl
      rw [hr]
      exact HX (boolC_nil _ b k _ H.out hq)
    | cons x t =>
      by_cases hx : 1 < x.toNat
      · have hr : rBool (x :: t, 0) = (bad 11, false) := by simp [rBool, hx]
        rw [hr]
        exact HX (boolC_high _ b k x t _ H.out hl hx hq)
      · have hr : rBool (x :: t, 0) = ((t, 0), x.toNat == 1) := by simp [rBool, hx]
        rw [hr]
        have HF := hide (boolC_got _ b k x t _ H.out hl (by omega) hq)
        have hxl : x.toNat ≤ 1 := by omega
        clear hq hr HX hx
        generalize x.toNat = n at *
        go_enter Try.func26, Try.ntmps26
        go_wp2_with fail
        refine (readBool_got w.heap.size [b] b k (x :: t) n t (fun _ => True) _ H.out HF.out).mono ?_
        rintro e w1 ⟨rfl, h1, h2, _⟩
        have H1 := hide h1
        have H2 := hide h2
        clear h1 h2
        go_wp2_with fail
        go_ret
        exact ⟨ret_bool (by rcases Nat.le_one_iff_eq_zero_or_eq_one.1 hxl with rfl | rfl <;> rfl), H1.out, touch_alloc H2.out⟩
  · have hr : rBool (l, c) = ((l, c), false) := by simp [rBool, hc]
    rw [hr]
    clear hr hq
    have HC := hide hc
    clear hc
    go_enter Try.func26, Try.ntmps26
    go_wp2_with fail
    refine (read_stopped b k l c _ _ H.out HC.out).mono ?_
    rintro e w1 ⟨rfl, rfl⟩
    go_wp2_with fail
    go_ret
    exact ⟨rfl, H.out, (Touch.refl _ _).alloc _⟩
end Go.Proofs.Ytobcomognkokmaa
