/- A reader's methods: Int, Bool, Left, End, NewReader. -/
import Derived.Test.YtpbgelhjbfckcaaV11
import Derived.WalkSpells
import Derived.Test.YtpbgelhjbfckcaaV01
import Derived.Test.YtpbgelhjbfckcaaV10
namespace Go.Proofs.Ytpbgelhjbfckcaa
set_option linter.unusedVariables false
set_option linter.unusedSimpArgs false
section
open Go.ChangeShapes Go.WideShapes Go.ChangeAt Go.RowKit
theorem rNum_lt (l : List UInt8) (c : Int) : (rNum (l, c)).2 < 2 ^ 64 := by
 unfold rNum
 split
 ·split
  ·rename_i h; exact (parseN_some h).2
  ·simp
 ·simp
theorem rNum_len (l : List UInt8) (c : Int) : (rNum (l, c)).1.1.length ≤ l.length := by
 unfold rNum
 split
 ·split
  ·rename_i h; exact Nat.le_of_lt (parse_len h)
  ·simp [bad]
 ·simp
set_option maxHeartbeats 1000000 in
theorem left_c (b : Nat) (k : Option Nat) (l : List UInt8) (c : Int) (w : World) (h : Rd w b k l c) :
 Calls Try.prog 101 #[.pointer (some ⟨b, 0, none⟩)] w fun e w' => e = .returned (.int .i64 l.length) ∧ w = w' := by
 obtain ⟨v, c0, c1, f0, f1, hb⟩ := h.cells
 obtain ⟨A, cp, rfl, _, _⟩ := hb.form
 clear h hb
 generalize l.length = m at *
 go_enter Try.func101, Try.ntmps101
 go_wp2_with fail
 go_ret
 exact ⟨rfl, rfl⟩
theorem ret_i64 {a b : Int} (h : a = b) : Ending.returned (.int .i64 a) = .returned (.int .i64 b) := by rw [h]
set_option maxHeartbeats 1000000 in
theorem end_c (b : Nat) (k : Option Nat) (l : List UInt8) (c : Int) (w : World) (h : Rd w b k l c) :
 Calls Try.prog 46 #[.pointer (some ⟨b, 0, none⟩)] w fun e w' => e = .returned (.int .i64 (rEnd (l, c))) ∧ w = w' := by
 obtain ⟨v, c0, c1, f0, f1, hb⟩ := h.cells
 obtain ⟨A, cp, rfl, _, _⟩ := hb.form
 clear h hb
 by_cases hc : c = 0
 ·subst hc
  by_cases hl : 0 < l.length
  ·have hr : rEnd (l, 0) = 11 := by simp [rEnd, hl]
   rw [hr]
   clear hr
   generalize l.length = m at *
   have hx : (0 : Int) < (m : Int) := by omega
   go_enter Try.func46, Try.ntmps46
   go_wp2_with fail
   go_ret
   exact ⟨rfl, rfl⟩
  ·have hr : rEnd (l, 0) = 0 := by simp [rEnd, hl]
   rw [hr]
   clear hr
   generalize l.length = m at *
   have hx : ¬ (0 : Int) < (m : Int) := by omega
   go_enter Try.func46, Try.ntmps46
   go_wp2_with fail
   go_ret
   exact ⟨rfl, rfl⟩
 ·have hr : rEnd (l, c) = c := by simp [rEnd, hc]
  rw [hr]
  have hcb : (c == 0) = false := by simpa using hc
  clear hr hc
  generalize l.length = m at *
  go_enter Try.func46, Try.ntmps46
  go_wp2_with fail
  go_ret
  exact ⟨rfl, rfl⟩
theorem zag_bits (n : Nat) (hn : n < 2 ^ 64) : bits BinOp.xor IntKind.i64 ((n : Int) / 2) (wrap64 (-wrap64 (bits BinOp.and IntKind.u64 (n : Int) 1))) = zag n := by
 have hw : ∀ z : Int, IntKind.u64.wrap z = z % 18446744073709551616 := fun z => by simp [IntKind.wrap, IntKind.signed, IntKind.bits]
 have hs : ∀ z : Int, 0 ≤ z → z < 18446744073709551616 → IntKind.i64.wrap z = if z < 9223372036854775808 then z else z - 18446744073709551616 := fun z h0 h1 => by
  simp only [IntKind.wrap, IntKind.signed, IntKind.bits, Bool.true_and, decide_eq_true_eq]
  by_cases h : z < 9223372036854775808
  ·rw [if_pos h, if_neg (by simp; omega)]; simp; omega
  ·rw [if_neg h, if_pos (by simp; omega)]; simp; omega
 have ha : bits BinOp.and IntKind.u64 (n : Int) 1 = ((n % 2 : Nat) : Int) := by
  show IntKind.u64.wrap ((BitVec.ofInt 64 (n : Int) &&& BitVec.ofInt 64 1).toNat : Int) = _
  rw [hw, show (1 : Int) = ((1 : Nat) : Int) from rfl, BitVec.ofInt_natCast, BitVec.ofInt_natCast, BitVec.toNat_and, BitVec.toNat_ofNat, BitVec.toNat_ofNat, Nat.mod_eq_of_lt hn, Nat.mod_eq_of_lt (show 1 < 2 ^ 64 by decide), Nat.and_one_is_mod]
  omega
 rw [ha]
 have hd : (n : Int) / 2 = ((n / 2 : Nat) : Int) := by omega
 rw [hd]
 show IntKind.i64.wrap ((BitVec.ofInt 64 ((n / 2 : Nat) : Int) ^^^ BitVec.ofInt 64 (wrap64 (-wrap64 ((n % 2 : Nat) : Int)))).toNat : Int) = _
 unfold zag
 by_cases h2 : n % 2 = 0
 ·rw [if_pos h2, h2, show wrap64 (-wrap64 ((0 : Nat) : Int)) = 0 from by decide +kernel, show BitVec.ofInt 64 0 = 0#64 from rfl, BitVec.xor_zero, BitVec.ofInt_natCast, BitVec.toNat_ofNat, Nat.mod_eq_of_lt (by omega), hs _ (by omega) (by omega), if_pos (by omega)]
 ·rw [if_neg h2, show n % 2 = 1 by omega, show wrap64 (-wrap64 ((1 : Nat) : Int)) = -1 from by decide +kernel, show BitVec.ofInt 64 (-1) = BitVec.allOnes 64 from rfl, BitVec.xor_allOnes, BitVec.toNat_not, BitVec.ofInt_natCast, BitVec.toNat_ofNat, Nat.mod_eq_of_lt (show n / 2 < 2 ^ 64 by omega), hs _ (by omega) (by omega), if_neg (by omega)]
  omega
theorem zag_zig (i : Int) : zag (zig i) = i := by unfold zag zig; split <;> split <;> omega
set_option maxHeartbeats 1000000 in
theorem rdInt_c (b : Nat) (k : Option Nat) (l : List UInt8) (c : Int) (w : World) (h : Rd w b k l c) (hl : l.length ≤ 140737488355328) :
 Calls Try.prog 55 #[.pointer (some ⟨b, 0, none⟩)] w (Step1 w b k (rInt (l, c)).1 (.int .i64 (rInt (l, c)).2)) := by
 have hn := rNum_lt l c
 show Calls _ _ _ _ (Step1 w b k (rNum (l, c)).1 (.int .i64 (zag (rNum (l, c)).2)))
 have H := hide (rdNumber_c b k l c w h hl)
 clear h
 generalize (rNum (l, c)).1 = r at *
 generalize (rNum (l, c)).2 = n at *
 go_enter Try.func55, Try.ntmps55
 go_wp2_with fail
 refine H.out.mono ?_
 rintro e w1 ⟨rfl, h1, h2⟩
 have H1 := hide h1;have H2 := hide h2;clear h1 h2
 go_wp2_with fail
 go_ret
 exact ⟨ret_i64 (zag_bits n hn), H1.out, H2.out⟩
/-- A box that holds a pointer to the reader. -/
def BoxP (w : World) (q b : Nat) : Prop := w.cell? ⟨q, 0, none⟩ = some (.pointer (some ⟨b, 0, none⟩))
theorem boxP_new (w : World) (b : Nat) : BoxP (w.alloc (.cells #[.pointer (some ⟨b, 0, none⟩)] 106)) w.heap.size b := (Blk.new w _ _).cell 0
set_option maxHeartbeats 1000000 in
theorem boolC_nil (q b : Nat) (k : Option Nat) (w : World) (h : Rd w b k [] 0) (hq : BoxP w q b) :
 Calls Try.prog 104 #[.pointer (some ⟨q, 0, none⟩)] w (FnBad [b] w b k 11 (fun _ => True)) := by
 unfold BoxP at hq
 go_enter Try.func104, Try.ntmps104
 go_wp2_with fail
 refine (take_no b k [] 0 1 w h (by simp) (by simp)).mono ?_
 rintro e w1 ⟨rfl, rfl⟩
 go_wp2_with fail
 go_ret2
 exact ⟨rfl, ⟨[], h⟩, Touch.refl _ _, trivial⟩
set_option maxHeartbeats 1000000 in
theorem boolC_high (q b : Nat) (k : Option Nat) (x : UInt8) (t : List UInt8) (w : World) (h : Rd w b k (x :: t) 0) (hl : (x :: t).length ≤ 140737488355328) (hx : 1 < x.toNat) (hq : BoxP w q b) :
 Calls Try.prog 104 #[.pointer (some ⟨q, 0, none⟩)] w (FnBad [b] w b k 11 (fun _ => True)) := by
 unfold BoxP at hq
 have hu : (1 : Int) < u8 x := by unfold u8; omega
 have hu0 : 0 ≤ u8 x := (u8_lt x).1
 have H := hide h;clear h hx
 go_enter Try.func104, Try.ntmps104
 go_wp2_with fail
 refine (take_yes b k (x :: t) 0 1 w H.out (by simp) hl).mono ?_
 rintro e w1 ⟨v1, rfl, hb1, hk1, hr1, hg1⟩
 obtain ⟨A1, c1, rfl, h11, h12⟩ := hb1.form
 obtain ⟨b1, off1, y, rfl, hlt1, hy, hc1⟩ := hb1.at_ (k := 0) (by simp)
 obtain rfl : x = y := by simpa using hy
 have HR := hide hr1;have HG := hide hg1;clear hr1 hg1 hb1 hk1 hy hq
 simp only [Nat.add_zero] at hc1
 go_wp2_with fail
 go_ret2
 exact ⟨rfl, ⟨_, HR.out⟩, Touch.one HG.out, trivial⟩
set_option maxHeartbeats 1000000 in
theorem boolC_got (q b : Nat) (k : Option Nat) (x : UInt8) (t : List UInt8) (w : World) (h : Rd w b k (x :: t) 0) (hl : (x :: t).length ≤ 140737488355328) (hx : x.toNat ≤ 1) (hq : BoxP w q b) :
 Calls Try.prog 104 #[.pointer (some ⟨q, 0, none⟩)] w (FnGot [b] w b k x.toNat t (fun _ => True)) := by
 unfold BoxP at hq
 have hu : u8 x ≤ 1 := by unfold u8; omega
 have hu0 : 0 ≤ u8 x := (u8_lt x).1
 have H := hide h;clear h hx
 go_enter Try.func104, Try.ntmps104
 go_wp2_with fail
 refine (take_yes b k (x :: t) 0 1 w H.out (by simp) hl).mono ?_
 rintro e w1 ⟨v1, rfl, hb1, hk1, hr1, hg1⟩
 obtain ⟨A1, c1, rfl, h11, h12⟩ := hb1.form
 obtain ⟨b1, off1, y, rfl, hlt1, hy, hc1⟩ := hb1.at_ (k := 0) (by simp)
 obtain rfl : x = y := by simpa using hy
 have HR : Hid (Rd w1 b k t 0) := hide (by simpa using hr1)
 have HG := hide hg1;clear hr1 hg1 hb1 hk1 hy hq
 simp only [Nat.add_zero] at hc1
 go_wp2_with fail
 go_ret2
 exact ⟨rfl, HR.out, Touch.one HG.out, trivial⟩
theorem touch_alloc {S : List Nat} {w w' : World} {o : Obj} (h : Touch S (w.alloc o) w') : Touch S w w' := ((Touch.refl S w).alloc o).trans h
theorem ret_bool {a b : Bool} (h : a = b) : Ending.returned (.bool a) = .returned (.bool b) := by rw [h]
set_option maxHeartbeats 1000000 in
theorem rdBool_c (b : Nat) (k : Option Nat) (l : List UInt8) (c : Int) (w : World) (h : Rd w b k l c) (hl : l.length ≤ 140737488355328) :
 Calls Try.prog 99 #[.pointer (some ⟨b, 0, none⟩)] w (Step1 w b k (rBool (l, c)).1 (.bool (rBool (l, c)).2)) := by
 have H := hide (h.alloc (.cells #[.pointer (some ⟨b, 0, none⟩)] 106))
 clear h;have hq := boxP_new w b
 by_cases hc : c = 0
 ·subst hc
  have HX : ∀ (HF : Calls Try.prog 104 #[.pointer (some ⟨w.heap.size, 0, none⟩)] (w.alloc (.cells #[.pointer (some ⟨b, 0, none⟩)] 106)) (FnBad [b] (w.alloc (.cells #[.pointer (some ⟨b, 0, none⟩)] 106)) b k 11 (fun _ => True))),
   Calls Try.prog 99 #[.pointer (some ⟨b, 0, none⟩)] w (Step1 w b k (bad 11) (.bool false)) := by
   intro HF
   have HF := hide HF;clear hq
   go_enter Try.func99, Try.ntmps99
   go_wp2_with fail
   refine (readBool_bad w.heap.size [b] b k l 11 (by decide) (fun _ => True) _ H.out (by simp) HF.out).mono ?_
   rintro e w1 ⟨rfl, h1, h2, _⟩
   go_wp2_with fail
   go_ret
   exact ⟨rfl, h1, touch_alloc h2⟩
  cases l with
  | nil =>
   have hr : rBool ([], 0) = (bad 11, false) := rfl
   rw [hr]
   exact HX (boolC_nil _ b k _ H.out hq)
  | cons x t =>
   by_cases hx : 1 < x.toNat
   ·have hr : rBool (x :: t, 0) = (bad 11, false) := by simp [rBool, hx]
    rw [hr]
    exact HX (boolC_high _ b k x t _ H.out hl hx hq)
   ·have hr : rBool (x :: t, 0) = ((t, 0), x.toNat == 1) := by simp [rBool, hx]
    rw [hr]
    have HF := hide (boolC_got _ b k x t _ H.out hl (by omega) hq)
    have hxl : x.toNat ≤ 1 := by omega
    clear hq hr HX hx
    generalize x.toNat = n at *
    go_enter Try.func99, Try.ntmps99
    go_wp2_with fail
    refine (readBool_got w.heap.size [b] b k (x :: t) n t (fun _ => True) _ H.out HF.out).mono ?_
    rintro e w1 ⟨rfl, h1, h2, _⟩
    have H1 := hide h1;have H2 := hide h2;clear h1 h2
    go_wp2_with fail
    go_ret
    exact ⟨ret_bool (by rcases Nat.le_one_iff_eq_zero_or_eq_one.1 hxl with rfl | rfl <;> rfl), H1.out, touch_alloc H2.out⟩
 ·have hr : rBool (l, c) = ((l, c), false) := by simp [rBool, hc]
  rw [hr]
  clear hr hq;have HC := hide hc;clear hc
  go_enter Try.func99, Try.ntmps99
  go_wp2_with fail
  refine (read_stopped b k l c _ _ H.out HC.out).mono ?_
  rintro e w1 ⟨rfl, rfl⟩
  go_wp2_with fail
  go_ret
  exact ⟨rfl, H.out, (Touch.refl _ _).alloc _⟩
end
section
open Go.ChangeShapes Go.WideShapes Go.ChangeAt Go.RowKit
/-- The call returns new memory with the bytes l; nothing that was there has turned. -/
def Fresh (w : World) (l : List UInt8) (e : Ending) (w' : World) : Prop := ∃ v, e = .returned v ∧ Ow w' w.heap.size v l ∧ Below w.heap.size w w'
set_option maxHeartbeats 1000000 in
theorem clone_b (v : Value) (l : List UInt8) (w : World) (h : Bs w v l) (hl : l.length ≤ 140737488355328) : Calls Try.prog 78 #[v] w (Fresh w l) := by
 obtain ⟨A, c, rfl, hc, hm⟩ := h.form
 have H := hide h;have HL := hide hl;clear h hl hc hm
 have heq := fun (w : World) (A : Option Addr) (n c : Nat) => Lib.run_eql_slice_nil (P := Try.prog) w 102 5 A n c 0 0 Try.underlying102
 have HL2 : Hid (0 + l.length ≤ 140737488355328) := by unfold Hid; have := HL.out; omega
 generalize hn : l.length = n at H heq
 clear hn
 cases A with
 | none =>
  have hnil : l = [] := by
   obtain ⟨A', c', hv, _, _, h3⟩ := H.out
   injection hv with e1 e2 e3
   rcases Nat.eq_zero_or_pos l.length with h0 | h0
   ·exact List.eq_nil_of_length_eq_zero h0
   ·obtain ⟨b, off, e, _⟩ := h3 h0
    rw [← e1] at e; cases e
  have HN := hide hnil;clear hnil
  go_enter Try.func78, Try.ntmps78
  go_wp2_with fail
  go_ret
  exact ⟨_, rfl, by rw [HN.out]; exact Ow.nil _ _, Below.refl _ _⟩
 | some a =>
  go_enter Try.func78, Try.ntmps78
  go_wp2_with (at_builtin; refine wpList_append_bs rfl _ _ rfl w.heap.size (l := []) (m := l) rfl (Ow.made [] #[] rfl (Nat.le_refl _) (by simp)) rfl (H.out.alloc _) HL2.out (by simp) ?_; intro v1 w1 how hg hw)
  go_ret
  exact ⟨_, rfl, how, below_grown ((Below.refl _ _).alloc (Nat.le_refl _) _) hg (by simp) (Nat.le_refl _)⟩
end
section
open Go.ChangeShapes Go.WideShapes Go.ChangeAt Go.RowKit
/-- A box that holds a text. -/
def BoxS (w : World) (s : Nat) (x : ByteArray) : Prop := Blk w s 9 #[.string x]
theorem BoxS.cells {w : World} {s : Nat} {x : ByteArray} (h : BoxS w s x) : w.cell? ⟨s, 0, none⟩ = some (.string x) ∧ w.frozen? ⟨s, 0, none⟩ = false := ⟨Blk.cell h 0, Blk.froz h 0⟩
set_option maxHeartbeats 1000000 in
theorem textC_bad (q s b : Nat) (k : Option Nat) (l : List UInt8) (x : ByteArray) (w : World) (h : Rd w b k l 0) (hl : l.length ≤ 140737488355328) (hp : parseN l = none) (hq : BoxP w q b) (hs : BoxS w s x) (hqb : q ≠ b) (hsb : s ≠ b) (hql : q < w.heap.size) :
 Calls Try.prog 92 #[.pointer (some ⟨q, 0, none⟩), .pointer (some ⟨s, 0, none⟩)] w (FnBad [b, s] w b k 11 (fun w' => BoxS w' s x)) := by
 have HN := hide (number_bad b k l 0 w h hl hp)
 have HS := hide hs;have hq0 := hq
 unfold BoxP at hq
 clear hs h
 go_enter Try.func92, Try.ntmps92
 go_wp2_with fail
 refine HN.out.mono ?_
 rintro e w1 ⟨rfl, ⟨l', hr, hl'⟩, hg⟩
 have hq1 : w1.cell? ⟨q, 0, none⟩ = some (.pointer (some ⟨b, 0, none⟩)) := (World.cell?_of_block (hg.block q hql (by intro e; injection e with e; exact hqb e))).trans hq
 have HS1 := hide (Blk.grown HS.out hg (by intro e; injection e with e; exact hsb e))
 have HG := hide hg;have HR := hide hr
 have HL := hide (show l'.length ≤ 140737488355328 by omega)
 clear hg hr hq hl' hq0
 go_wp2_with fail
 refine (take_yes b k l' 0 0 w1 HR.out (Nat.zero_le _) HL.out).mono ?_
 rintro e w2 ⟨v2, rfl, _, _, hr2, hg2⟩
 have HG2 := hide (grown_trans HG.out hg2)
 have HR2 := hide hr2
 have HS2 : Hid (BoxS w2 s x) := hide (Blk.grown HS1.out hg2 (by intro e; injection e with e; exact hsb e))
 clear hg2 hr2
 go_wp2_with fail
 go_ret2
 exact ⟨rfl, ⟨_, HR2.out⟩, (Touch.one HG2.out).mono (by simp), HS2.out⟩
set_option maxHeartbeats 1000000 in
theorem textC_short (q s b : Nat) (k : Option Nat) (l : List UInt8) (x : ByteArray) (w : World) (h : Rd w b k l 0) (hl : l.length ≤ 140737488355328) {n : Nat} {t : List UInt8} (hp : parseN l = some (n, t)) (ht : t.length < n) (hq : BoxP w q b) (hs : BoxS w s x) (hqb : q ≠ b) (hsb : s ≠ b) (hql : q < w.heap.size) :
 Calls Try.prog 92 #[.pointer (some ⟨q, 0, none⟩), .pointer (some ⟨s, 0, none⟩)] w (FnBad [b, s] w b k 11 (fun w' => BoxS w' s x)) := by
 have HN := hide (number_got b k l 0 w h hl hp)
 have HS := hide hs;have HT := hide ht;have hlt := parse_len hp
 have HL := hide (show t.length ≤ 140737488355328 by omega)
 unfold BoxP at hq
 clear hs h ht hp hlt hl
 go_enter Try.func92, Try.ntmps92
 go_wp2_with fail
 refine HN.out.mono ?_
 rintro e w1 ⟨rfl, hr, hg⟩
 have hq1 : w1.cell? ⟨q, 0, none⟩ = some (.pointer (some ⟨b, 0, none⟩)) := (World.cell?_of_block (hg.block q hql (by intro e; injection e with e; exact hqb e))).trans hq
 have HS1 : Hid (BoxS w1 s x) := hide (Blk.grown HS.out hg (by intro e; injection e with e; exact hsb e))
 have HG := hide hg;have HR := hide hr;clear hg hr hq
 go_wp2_with fail
 refine (take_no b k t 0 n w1 HR.out HT.out HL.out).mono ?_
 rintro e w2 ⟨rfl, rfl⟩
 go_wp2_with fail
 go_ret2
 exact ⟨rfl, ⟨_, HR.out⟩, (Touch.one HG.out).mono (by simp), HS1.out⟩
set_option maxHeartbeats 1000000 in
theorem textC_got (q s b : Nat) (k : Option Nat) (l : List UInt8) (x : ByteArray) (w : World) (h : Rd w b k l 0) (hl : l.length ≤ 140737488355328) {n : Nat} {t : List UInt8} (hp : parseN l = some (n, t)) (ht : n ≤ t.length) (hq : BoxP w q b) (hs : BoxS w s x) (hqb : q ≠ b) (hsb : s ≠ b) (hsk : k ≠ some s) (hql : q < w.heap.size) :
 Calls Try.prog 92 #[.pointer (some ⟨q, 0, none⟩), .pointer (some ⟨s, 0, none⟩)] w (FnGot [b, s] w b k 0 (t.drop n) (fun w' => BoxS w' s ⟨(t.take n).toArray⟩)) := by
 have HN := hide (number_got b k l 0 w h hl hp)
 have HS := hide hs;have HT := hide ht;have hlt := parse_len hp
 have HL := hide (show t.length ≤ 140737488355328 by omega)
 unfold BoxP at hq
 clear hs h ht hp hlt hl
 go_enter Try.func92, Try.ntmps92
 go_wp2_with fail
 refine HN.out.mono ?_
 rintro e w1 ⟨rfl, hr, hg⟩
 have hq1 : w1.cell? ⟨q, 0, none⟩ = some (.pointer (some ⟨b, 0, none⟩)) := (World.cell?_of_block (hg.block q hql (by intro e; injection e with e; exact hqb e))).trans hq
 have HS1 : Hid (BoxS w1 s x) := hide (Blk.grown HS.out hg (by intro e; injection e with e; exact hsb e))
 have HG := hide hg;have HR := hide hr;clear hg hr hq
 go_wp2_with fail
 refine (take_yes b k t 0 n w1 HR.out HT.out HL.out).mono ?_
 rintro e w2 ⟨v2, rfl, hb2, _, hr2, hg2⟩
 have HG2 := hide (grown_trans HG.out hg2)
 have HR2 := hide hr2
 have HS2 : Hid (BoxS w2 s x) := hide (Blk.grown HS1.out hg2 (by intro e; injection e with e; exact hsb e))
 have hcv := run_string_bs hb2
 obtain ⟨sc, sf⟩ := HS2.out.cells
 clear hg2 hr2 hb2 hq1
 go_wp2_with fail
 go_ret2
 refine ⟨rfl, HR2.out.far (grown_set (grown_refl _ (some s)) 0 _) (by simpa using hsb) (fun j hj e => hsk (by rw [hj]; exact e.symm)), ((Touch.one HG2.out).mono (T := [b, s]) (by simp)).set (by simp) 0 _, Blk.put HS2.out 0 _⟩
set_option maxHeartbeats 2000000 in
theorem rdText_c (b : Nat) (k : Option Nat) (l : List UInt8) (c : Int) (w : World) (h : Rd w b k l c) (hl : l.length ≤ 140737488355328) (hk : ∀ j, k = some j → j < w.heap.size) :
 Calls Try.prog 64 #[.pointer (some ⟨b, 0, none⟩)] w (Step1 w b k (rText (l, c)).1 (.string ⟨(rText (l, c)).2.toArray⟩)) := by
 have hblt := h.lt
 have H := hide ((h.alloc (.cells #[.pointer (some ⟨b, 0, none⟩)] 106)).alloc (.cells #[.string ⟨#[]⟩] 9))
 clear h
 obtain ⟨w0, hw0⟩ : ∃ w0, w0 = (w.alloc (.cells #[.pointer (some ⟨b, 0, none⟩)] 106)).alloc (.cells #[.string ⟨#[]⟩] 9) := ⟨_, rfl⟩
 have hq : BoxP w0 w.heap.size b := by rw [hw0]; exact ((Blk.new w _ _).alloc _).cell 0
 have hs : BoxS w0 (w.heap.size + 1) ⟨#[]⟩ := by rw [hw0]; have := Blk.new (w.alloc (.cells #[.pointer (some ⟨b, 0, none⟩)] 106)) 9 #[.string ⟨#[]⟩]; simp only [World.size_alloc] at this; exact this
 have hT : Touch [] w w0 := by rw [hw0]; exact ((Touch.refl [] w).alloc _).alloc _
 have hql : w.heap.size < w0.heap.size := by rw [hw0]; simp; omega
 have hback : ∀ (w1 : World), Touch [b, w.heap.size + 1] w0 w1 → Touch [b] w w1 := fun w1 h1 => (hT.mono (T := [b]) (by simp)).next h1 (by simp)
 rw [← hw0] at H
 have HB := hide hback;have HW := hide hw0;clear hback hw0
 by_cases hc : c = 0
 ·subst hc
  have HX : ∀ (HF : Calls Try.prog 92 #[.pointer (some ⟨w.heap.size, 0, none⟩), .pointer (some ⟨w.heap.size + 1, 0, none⟩)] w0 (FnBad [b, w.heap.size + 1] w0 b k 11 (fun w' => BoxS w' (w.heap.size + 1) ⟨#[]⟩))),
   Calls Try.prog 64 #[.pointer (some ⟨b, 0, none⟩)] w (Step1 w b k (bad 11) (.string ⟨#[]⟩)) := by
   intro HF
   have HF := hide (readText_bad w.heap.size (w.heap.size + 1) [b, w.heap.size + 1] b k l 11 (by decide) (fun w' => BoxS w' (w.heap.size + 1) ⟨#[]⟩) w0 H.out (by simp) HF)
   clear hq hs hT hql
   go_enter Try.func64, Try.ntmps64
   go_wp2_with fail
   rw [HW.out] at HF HB
   refine HF.out.mono ?_
   rintro e w1 ⟨rfl, h1, h2, wx, hx1, hx2⟩
   have hb1 : BoxS w1 (w.heap.size + 1) ⟨#[]⟩ := Blk.touch hx1 hx2 (by simp; omega)
   obtain ⟨sc, sf⟩ := hb1.cells
   have H1 := hide h1
   have H2 := hide (HB.out _ h2)
   clear h1 h2 hx1 hx2 hb1
   go_wp2_with fail
   go_ret
   exact ⟨rfl, H1.out, H2.out⟩
  cases hp : parseN l with
  | none =>
   have hr : rText (l, 0) = (bad 11, []) := by simp [rText, hp]
   rw [hr]
   exact HX (textC_bad _ _ b k l _ _ H.out hl hp hq hs (by omega) (by omega) hql)
  | some p =>
   obtain ⟨n, t⟩ := p
   by_cases ht : t.length < n
   ·have hr : rText (l, 0) = (bad 11, []) := by simp [rText, hp, ht]
    rw [hr]
    exact HX (textC_short _ _ b k l _ _ H.out hl hp ht hq hs (by omega) (by omega) hql)
   ·have hr : rText (l, 0) = ((t.drop n, 0), t.take n) := by simp [rText, hp, ht]
    rw [hr]
    have HF := hide (readText_got w.heap.size (w.heap.size + 1) [b, w.heap.size + 1] b k l 0 (t.drop n) (fun w' => BoxS w' (w.heap.size + 1) ⟨(t.take n).toArray⟩) w0 H.out (textC_got _ _ b k l _ _ H.out hl hp (by omega) hq hs (by omega) (by omega) (fun e => by have := hk _ e; omega) hql))
    clear hq hs hT hql hr HX ht hp
    generalize (t.take n).toArray = xs at *
    generalize t.drop n = r at *
    go_enter Try.func64, Try.ntmps64
    go_wp2_with fail
    rw [HW.out] at HF HB
    refine HF.out.mono ?_
    rintro e w1 ⟨rfl, h1, h2, hb1⟩
    obtain ⟨sc, sf⟩ := BoxS.cells hb1
    have H1 := hide h1
    have H2 := hide (HB.out _ h2)
    clear h1 h2 hb1
    go_wp2_with fail
    go_ret
    exact ⟨rfl, H1.out, H2.out⟩
 ·have hr : rText (l, c) = ((l, c), []) := by simp [rText, hc]
  rw [hr]
  have HF := hide (read_stopped b k l c (.func (.func 92) #[] #[.pointer (some ⟨w.heap.size, 0, none⟩), .pointer (some ⟨w.heap.size + 1, 0, none⟩)]) w0 H.out hc)
  have HT := hide hT;have HSS := hide hs;clear hq hs hT hql hr hc
  go_enter Try.func64, Try.ntmps64
  go_wp2_with fail
  rw [HW.out] at HF HB HT H HSS
  refine HF.out.mono ?_
  rintro e w1 ⟨rfl, rfl⟩
  obtain ⟨sc, sf⟩ := HSS.out.cells
  go_wp2_with fail
  go_ret
  exact ⟨rfl, H.out, HT.out.mono (by simp)⟩
end
section
open Go.ChangeShapes Go.WideShapes Go.ChangeAt Go.RowKit
/-- A box that holds an integer. -/
def BoxI (w : World) (s : Nat) (x : Int) : Prop := w.cell? ⟨s, 0, none⟩ = some (.int .i64 x)
set_option maxHeartbeats 1000000 in
theorem countC_bad (q s b : Nat) (k : Option Nat) (l : List UInt8) (x : Int) (w : World) (h : Rd w b k l 0) (hl : l.length ≤ 140737488355328) (hp : parseN l = none) (hq : BoxP w q b) :
 Calls Try.prog 80 #[.pointer (some ⟨q, 0, none⟩), .pointer (some ⟨s, 0, none⟩)] w (FnBad [b] w b k 11 (fun _ => True)) := by
 have HN := hide (number_bad b k l 0 w h hl hp)
 unfold BoxP at hq
 clear h
 go_enter Try.func80, Try.ntmps80
 go_wp2_with fail
 refine HN.out.mono ?_
 rintro e w1 ⟨rfl, ⟨l', hr, hl'⟩, hg⟩
 have HG := hide hg;have HR := hide hr;clear hg hr hq hl'
 go_wp2_with fail
 go_ret2
 exact ⟨rfl, ⟨_, HR.out⟩, Touch.one HG.out, trivial⟩
set_option maxHeartbeats 1000000 in
theorem countC_large (q s b : Nat) (k : Option Nat) (l : List UInt8) (x : Int) (w : World) (h : Rd w b k l 0) (hl : l.length ≤ 140737488355328) {n : Nat} {t : List UInt8} (hp : parseN l = some (n, t)) (hx : x < (n : Int)) (hx1 : x ≤ 9223372036854775807) (hq : BoxP w q b) (hs : BoxI w s x) (hsb : s ≠ b) (hsl : s < w.heap.size) :
 Calls Try.prog 80 #[.pointer (some ⟨q, 0, none⟩), .pointer (some ⟨s, 0, none⟩)] w (FnBad [b] w b k 8 (fun _ => True)) := by
 have HN := hide (number_got b k l 0 w h hl hp)
 unfold BoxP at hq
 unfold BoxI at hs
 have HP := hide hp;clear h hl hp
 by_cases h0 : x < 0
 ·go_enter Try.func80, Try.ntmps80
  go_wp2_with fail
  refine HN.out.mono ?_
  rintro e w1 ⟨rfl, hr, hg⟩
  have hs1 : w1.cell? ⟨s, 0, none⟩ = some (.int .i64 x) := (World.cell?_of_block (hg.block s hsl (by intro e; injection e with e; exact hsb e))).trans hs
  have HG := hide hg;have HR := hide hr;clear hg hr hq hs
  go_wp2_with fail
  go_ret2
  exact ⟨rfl, ⟨_, HR.out⟩, Touch.one HG.out, trivial⟩
 ·have h00 : 0 ≤ x := by omega
  clear h0
  go_enter Try.func80, Try.ntmps80
  go_wp2_with fail
  refine HN.out.mono ?_
  rintro e w1 ⟨rfl, hr, hg⟩
  have hs1 : w1.cell? ⟨s, 0, none⟩ = some (.int .i64 x) := (World.cell?_of_block (hg.block s hsl (by intro e; injection e with e; exact hsb e))).trans hs
  have HG := hide hg;have HR := hide hr;clear hg hr hq hs
  go_wp2_with fail
  go_ret2
  exact ⟨rfl, ⟨_, HR.out⟩, Touch.one HG.out, trivial⟩
set_option maxHeartbeats 1000000 in
theorem countC_got (q s b : Nat) (k : Option Nat) (l : List UInt8) (x : Int) (w : World) (h : Rd w b k l 0) (hl : l.length ≤ 140737488355328) {n : Nat} {t : List UInt8} (hp : parseN l = some (n, t)) (hx : ¬ x < (n : Int)) (hx1 : x ≤ 9223372036854775807) (hq : BoxP w q b) (hs : BoxI w s x) (hsb : s ≠ b) (hsl : s < w.heap.size) :
 Calls Try.prog 80 #[.pointer (some ⟨q, 0, none⟩), .pointer (some ⟨s, 0, none⟩)] w (FnGot [b] w b k n t (fun _ => True)) := by
 have HN := hide (number_got b k l 0 w h hl hp)
 unfold BoxP at hq
 unfold BoxI at hs
 have HP := hide hp;clear h hl hp
 have h0 : ¬ x < 0 := by omega
 have h00 : 0 ≤ x := by omega
 go_enter Try.func80, Try.ntmps80
 go_wp2_with fail
 refine HN.out.mono ?_
 rintro e w1 ⟨rfl, hr, hg⟩
 have hs1 : w1.cell? ⟨s, 0, none⟩ = some (.int .i64 x) := (World.cell?_of_block (hg.block s hsl (by intro e; injection e with e; exact hsb e))).trans hs
 have HG := hide hg;have HR := hide hr;clear hg hr hq hs
 go_wp2_with fail
 go_ret2
 exact ⟨rfl, HR.out, Touch.one HG.out, trivial⟩
theorem rCount_len (x : Int) (l : List UInt8) (c : Int) : (rCount x (l, c)).1.1.length ≤ l.length := by
 unfold rCount
 split
 ·split
  ·rename_i h
   have h1 := parse_len h
   split
   ·simp [bad]
   ·exact Nat.le_of_lt h1
  ·simp [bad]
 ·simp
theorem rBool_len (l : List UInt8) (c : Int) : (rBool (l, c)).1.1.length ≤ l.length := by
 unfold rBool
 split
 ·cases l with
  | nil => simp [bad]
  | cons x t =>
   simp only
   split <;> simp [bad]
 ·simp
theorem rInt_len (l : List UInt8) (c : Int) : (rInt (l, c)).1.1.length ≤ l.length := rNum_len l c
set_option maxHeartbeats 2000000 in
theorem rdCount_c (b : Nat) (k : Option Nat) (l : List UInt8) (c x : Int) (hx1 : x ≤ 9223372036854775807) (w : World) (h : Rd w b k l c) (hl : l.length ≤ 140737488355328) (hk : ∀ j, k = some j → j < w.heap.size) :
 Calls Try.prog 45 #[.pointer (some ⟨b, 0, none⟩), .int .i64 x] w (Step1 w b k (rCount x (l, c)).1 (.int .i64 (rCount x (l, c)).2)) := by
 have hblt := h.lt
 have H := hide ((h.alloc (.cells #[.pointer (some ⟨b, 0, none⟩)] 106)).alloc (.cells #[.int .i64 x] 3))
 clear h
 obtain ⟨w0, hw0⟩ : ∃ w0, w0 = (w.alloc (.cells #[.pointer (some ⟨b, 0, none⟩)] 106)).alloc (.cells #[.int .i64 x] 3) := ⟨_, rfl⟩
 have hq : BoxP w0 w.heap.size b := by rw [hw0]; exact ((Blk.new w _ _).alloc _).cell 0
 have hs : BoxI w0 (w.heap.size + 1) x := by rw [hw0]; have := (Blk.new (w.alloc (.cells #[.pointer (some ⟨b, 0, none⟩)] 106)) 3 #[.int .i64 x]).cell 0; simp only [World.size_alloc] at this; exact this
 have hT : Touch [] w w0 := by rw [hw0]; exact ((Touch.refl [] w).alloc _).alloc _
 have hsl : w.heap.size + 1 < w0.heap.size := by rw [hw0]; simp
 have hback : ∀ (w1 : World), Touch [b] w0 w1 → Touch [b] w w1 := fun w1 h1 => (hT.mono (T := [b]) (by simp)).next h1 (by simp)
 rw [← hw0] at H
 have HB := hide hback;have HW := hide hw0;clear hback hw0
 by_cases hc : c = 0
 ·subst hc
  have HX : ∀ (code : Int) (hcode : code ≠ 0) (HF : Calls Try.prog 80 #[.pointer (some ⟨w.heap.size, 0, none⟩), .pointer (some ⟨w.heap.size + 1, 0, none⟩)] w0 (FnBad [b] w0 b k code (fun _ => True))),
   Calls Try.prog 45 #[.pointer (some ⟨b, 0, none⟩), .int .i64 x] w (Step1 w b k (bad code) (.int .i64 0)) := by
   intro code hcode HF
   have HF := hide (readCount_bad w.heap.size (w.heap.size + 1) [b] b k l code hcode (fun _ => True) w0 H.out (by simp) HF)
   clear hq hs hT hsl hcode
   go_enter Try.func45, Try.ntmps45
   go_wp2_with fail
   rw [HW.out] at HF HB
   refine HF.out.mono ?_
   rintro e w1 ⟨rfl, h1, h2, _⟩
   have H1 := hide h1
   have H2 := hide (HB.out _ h2)
   clear h1 h2
   go_wp2_with fail
   go_ret
   exact ⟨rfl, H1.out, H2.out⟩
  cases hp : parseN l with
  | none =>
   have hr : rCount x (l, 0) = (bad 11, 0) := by simp [rCount, hp]
   rw [hr]
   exact HX 11 (by decide) (countC_bad _ _ b k l x _ H.out hl hp hq)
  | some p =>
   obtain ⟨n, t⟩ := p
   by_cases ht : x < (n : Int)
   ·have hr : rCount x (l, 0) = (bad 8, 0) := by simp [rCount, hp, ht]
    rw [hr]
    exact HX 8 (by decide) (countC_large _ _ b k l x _ H.out hl hp ht hx1 hq hs (by omega) hsl)
   ·have hr : rCount x (l, 0) = ((t, 0), n) := by simp [rCount, hp, ht]
    rw [hr]
    have hn0 : (n : Int) ≤ 9223372036854775807 := by omega
    have HF := hide (readCount_got w.heap.size (w.heap.size + 1) [b] b k l n t (fun _ => True) w0 H.out (countC_got _ _ b k l x _ H.out hl hp ht hx1 hq hs (by omega) hsl))
    clear hq hs hT hsl hr HX ht hp
    go_enter Try.func45, Try.ntmps45
    go_wp2_with fail
    rw [HW.out] at HF HB
    refine HF.out.mono ?_
    rintro e w1 ⟨rfl, h1, h2, _⟩
    have H1 := hide h1
    have H2 := hide (HB.out _ h2)
    clear h1 h2
    go_wp2_with fail
    go_ret
    exact ⟨rfl, H1.out, H2.out⟩
 ·have hr : rCount x (l, c) = ((l, c), 0) := by simp [rCount, hc]
  rw [hr]
  have HF := hide (read_stopped b k l c (.func (.func 80) #[] #[.pointer (some ⟨w.heap.size, 0, none⟩), .pointer (some ⟨w.heap.size + 1, 0, none⟩)]) w0 H.out hc)
  have HT := hide hT;clear hq hs hT hsl hr hc
  go_enter Try.func45, Try.ntmps45
  go_wp2_with fail
  rw [HW.out] at HF HB HT H
  refine HF.out.mono ?_
  rintro e w1 ⟨rfl, rfl⟩
  go_wp2_with fail
  go_ret
  exact ⟨rfl, H.out, HT.out.mono (by simp)⟩
/-- A new reader, which lies in new memory. -/
def NewRd (w : World) (l : List UInt8) (e : Ending) (w' : World) : Prop :=
 ∃ b k, e = .returned (.pointer (some ⟨b, 0, none⟩)) ∧ Rd w' b k l 0 ∧ Below w.heap.size w w' ∧ w.heap.size ≤ b ∧ (∀ j, k = some j → w.heap.size ≤ j ∧ j < w'.heap.size)
set_option maxHeartbeats 1000000 in
theorem newReader_c (v : Value) (l : List UInt8) (w : World) (h : Bs w v l) (hl : l.length ≤ 140737488355328) :
 Calls Try.prog 44 #[v] w (NewRd w l) := by
 have H := hide (clone_b v l w h hl)
 clear h
 go_enter Try.func44, Try.ntmps44
 go_wp2_with fail
 refine H.out.mono ?_
 rintro e w1 ⟨v1, rfl, ho, hb⟩
 have HO := hide ho;have HB := hide hb;clear ho hb
 obtain ⟨A, c, rfl, _, _⟩ := HO.out.form
 go_wp2_with fail
 go_ret
 have hs := HB.out.size
 refine ⟨w1.heap.size, _, rfl, ⟨_, Blk.new _ _ _, HO.out.bs.alloc _, (fun j hj => hj), ?_⟩, HB.out.alloc hs _, hs, ?_⟩
 ·intro e
  have := (HO.out.lt _ e).2
  omega
 ·intro j hj
  have := HO.out.lt _ hj
  exact ⟨this.1, by simp; omega⟩
end
section
open Go.ChangeShapes Go.WideShapes Go.ChangeAt Go.RowKit
/-- append(v, x...): v the call's own, x a row that is there (or nil). -/
theorem run_append_row {P : Program} {w : World} (base b2 : Nat) (t ty e : TypeId) (i : TypeInfo) (z : Value) (size bytes : Nat) (ht : P.underlying t = some (.slice e)) (hi : P.info? e = some i) (hz : i.zero = some z)
 (hsize : i.size = size) (hby : i.bytes = bytes) (hzs : z.cells.size = size) (hsz : 0 < size) {v x : Value} {n m : Nat} {xs news : List Value} (hv : w.ownsRow base e size v n xs) (hx : w.ownsRow b2 e size x m news)
 (h1 : ∀ u ∈ news, u.oneCell' = true) (h63 : n + m ≤ maxLen) (hbytes : (n + m) * bytes ≤ 140737488355328) (hbase : base ≤ w.heap.size) :
 ∃ v' w', (Builtin.append_ #[t, t] ty #[v, x]).run P w = .ok v' w' ∧ w'.ownsRow base e size v' (n + m) (xs ++ news) ∧ w.grownBy w' v.ownBlock ∧ (v'.ownBlock = v.ownBlock ∨ v'.ownBlock = some w.heap.size) := by
 have hx2 := hx.2
 rcases hx2 with ⟨rfl, rfl⟩ | ⟨g, cap, cur, rfl, hg, hh, hn, hm, hs, htk⟩
 ·have hnn : news = [] := List.eq_nil_of_length_eq_zero (by rw [hx.1, Nat.zero_mul])
  subst hnn
  refine ⟨v, w, ?_, by simpa using hv, grown_refl _ _, .inl rfl⟩
  obtain ⟨_, ⟨rfl, _⟩ | ⟨g, cap, cur, rfl, _, _, hn, _⟩⟩ := hv
  ·simp [Builtin.append_, run_underlying ht, sizeOf, typeInfo, hi, Builtin.lenOf, Builtin.firstCells]
  ·simp [Builtin.append_, run_underlying ht, sizeOf, typeInfo, hi, Builtin.lenOf, Builtin.firstCells, hn, storeCells]
 ·obtain ⟨v', w', h4, h5, h6, _, h7⟩ := run_append_own_at (P := P) w base t ty e i z size bytes ht hi hz hsize hby hzs hsz v n xs hv ⟨g, 0, none⟩ m cap news hx.1 (World.ownsRow.cells hx (g := g) rfl) h1 h63 hbytes hbase
  exact ⟨v', w', h4, h5, h6, h7⟩
theorem wpList_append_row {P : Program} {w : World} {ops : Array Oper} {rest : List Oper} {o : Oper} {a : Act} {Q : Exit → Act → World → Prop} (hgd : o.guard = none) (s x : Operand) (t : TypeId)
 (ho : o.op = .call { callee := .builtin .append, args := #[s, x], argTypes := #[t, t] }) (base b2 : Nat) (e : TypeId) (i : TypeInfo) (z : Value) (size bytes : Nat) (ht : P.underlying t = some (.slice e)) (hi : P.info? e = some i) (hz : i.zero = some z)
 (hsize : i.size = size) (hby : i.bytes = bytes) (hzs : z.cells.size = size) (hsz : 0 < size) {v vx : Value} {n m : Nat} {xs news : List Value} (hs : a.eval s = v) (hv : w.ownsRow base e size v n xs) (hvx : a.eval x = vx) (hx : w.ownsRow b2 e size vx m news)
 (h1 : ∀ u ∈ news, u.oneCell' = true) (h63 : n + m ≤ maxLen) (hbytes : (n + m) * bytes ≤ 140737488355328) (hbase : base ≤ w.heap.size)
 (h : ∀ v' w', w'.ownsRow base e size v' (n + m) (xs ++ news) → w.grownBy w' v.ownBlock → (v'.ownBlock = v.ownBlock ∨ v'.ownBlock = some w.heap.size) → wpList P ops Q rest (a.put o.dst v') w') : wpList P ops Q (o :: rest) a w := by
 refine wpList_plain hgd fun K hK => ?_
 obtain ⟨v', w', hr, h2, h3, h4⟩ := run_append_row (P := P) base b2 t o.type e i z size bytes ht hi hz hsize hby hzs hsz hv hx h1 h63 hbytes hbase
 unfold Oper.wp execOp
 simp only [ho, resolve, invoke, builtin, Sem.run_bind, Sem.run_pure, Result.andThen_ok, List.map_toArray, List.map_cons, List.map_nil, hs, hvx, hr]
 exact hK _ _ (h v' w' h2 h3 h4)
/-- A new block of just these cells, as a slice. -/
theorem row_lit (w : World) (base : Nat) (t : TypeId) (size n : Nat) (cs : List Value) (hl : cs.length = n * size) (hn : n ≤ maxLen) (hb : base ≤ w.heap.size) :
 (w.alloc (.cells cs.toArray t)).ownsRow base t size (.slice (some ⟨w.heap.size, 0, none⟩) n n) n cs :=
 ⟨hl, .inr ⟨w.heap.size, n, cs.toArray, rfl, hb, heap_alloc_new w _, Nat.le_refl _, hn, by simpa using hl, by rw [List.take_of_length_le (by simp; omega)]⟩⟩
theorem info_int : (Try.prog.info? 3).map (fun i => (i.zero, i.size, i.bytes)) = some (some (.int .i64 0), 1, 8) := by kernel_rfl
/-- A whole slice of numbers. -/
def OwI (w : World) (base : Nat) (v : Value) (l : List Int) : Prop := w.ownsRow base 3 1 v l.length (l.map fun x => Value.int .i64 x)
theorem OwI.nil (w : World) (base : Nat) : OwI w base (.slice none 0 0) [] := World.ownsRow_nil w base 3 1
theorem OwI.touch {S : List Nat} {w w' : World} {base : Nat} {v : Value} {l : List Int} (h : OwI w base v l) (k : Touch S w w') (hv : ∀ j, v.ownBlock = some j → j ∉ S) : OwI w' base v l := by
 obtain ⟨hl, h1 | ⟨g, cap, cur, rfl, hb, hgg, r⟩⟩ := h
 ·exact ⟨hl, .inl h1⟩
 ·exact ⟨hl, .inr ⟨g, cap, cur, rfl, hb, (k.block g (Array.getElem?_eq_some_iff.1 hgg).1 (hv g rfl)).trans hgg, r⟩⟩
theorem OwI.lt {w : World} {base : Nat} {v : Value} {l : List Int} (h : OwI w base v l) : ∀ k, v.ownBlock = some k → base ≤ k ∧ k < w.heap.size := World.ownsRow.lt h
/-- A list of numbers in a block from A on, below B. -/
def LiAB (w : World) (A0 B : Nat) (v : Value) (l : List Int) : Prop :=
 ∃ A c, v = .slice A l.length c ∧ l.length ≤ c ∧ c ≤ maxLen ∧ (∀ x ∈ l, I64 x) ∧ (0 < l.length → ∃ g o, A = some ⟨g, o, none⟩ ∧ A0 ≤ g ∧ g < B ∧ (∃ ics, Blk w g 3 ics) ∧ ∀ i (h : i < l.length), w.cell? ⟨g, o + i, none⟩ = some (.int .i64 l[i]))
theorem LiAB.low {w : World} {A0 B : Nat} {v : Value} {l : List Int} (h : LiAB w A0 B v l) : LiB w B v l := by
 obtain ⟨A, c, e, h1, h2, h3, h4⟩ := h
 exact ⟨A, c, e, h1, h2, h3, fun h0 => by obtain ⟨g, o, e1, _, hg, _, hc⟩ := h4 h0; exact ⟨g, o, e1, hg, hc⟩⟩
theorem LiAB.nil (w : World) (A0 B : Nat) : LiAB w A0 B (.slice none 0 0) [] := ⟨none, 0, rfl, Nat.le_refl _, by unfold maxLen; omega, by simp, fun h => by cases h⟩
/-- What turns are blocks below A0, or blocks of another kind. -/
theorem LiAB.turn {w w' : World} {A0 B : Nat} {v : Value} {l : List Int} {S : List Nat} (h : LiAB w A0 B v l) (k : Touch S w w') (hB : B ≤ w.heap.size) (hS : ∀ s ∈ S, s < A0 ∨ ∀ cs, ¬ Blk w s 3 cs) : LiAB w' A0 w'.heap.size v l := by
 obtain ⟨A, c, e, h1, h2, h3, h4⟩ := h
 refine ⟨A, c, e, h1, h2, h3, fun h0 => ?_⟩
 obtain ⟨g, o, e1, hA, hg, ⟨ics, hi⟩, hc⟩ := h4 h0
 have hn : g ∉ S := fun hm => by
  rcases hS g hm with h | h
  ·omega
  ·exact h ics hi
 refine ⟨g, o, e1, hA, Nat.lt_of_lt_of_le hg (Nat.le_trans hB k.size), ⟨ics, hi.touch k hn⟩, fun i hi => ?_⟩
 rw [World.cell?_of_block (k.block g (Nat.lt_of_lt_of_le hg hB) hn)]
 exact hc i hi
theorem LiAB.touch {w w' : World} {A0 B : Nat} {v : Value} {l : List Int} {S : List Nat} (h : LiAB w A0 B v l) (k : Touch S w w') (hB : B ≤ w.heap.size) (hS : ∀ s ∈ S, s < A0) : LiAB w' A0 w'.heap.size v l := h.turn k hB (fun s hs => .inl (hS s hs))
theorem OwI.li {w : World} {base : Nat} {v : Value} {l : List Int} (h : OwI w base v l) (hi : ∀ x ∈ l, I64 x) : LiAB w base w.heap.size v l := by
 have h' := h
 obtain ⟨hl, ⟨rfl, h0⟩ | ⟨g, cap, cur, rfl, hb, hgg, hn, hm, r⟩⟩ := h
 ·obtain rfl : l = [] := List.eq_nil_of_length_eq_zero h0
  exact LiAB.nil _ _ _
 ·refine ⟨_, cap, rfl, hn, hm, hi, fun h0 => ⟨g, 0, rfl, hb, (Array.getElem?_eq_some_iff.1 hgg).1, ⟨cur, hgg⟩, fun i hj => ?_⟩⟩
  have hc := World.ownsRow.cellAt (w := w) (cap := cap) h' i (by omega)
  rw [Nat.zero_add, hc]
  simp [hj]
theorem wpList_append_i {ops : Array Oper} {rest : List Oper} {o : Oper} {a : Act} {w w0 : World} {Q : Exit → Act → World → Prop} (hgd : o.guard = none) (s x : Operand)
 (ho : o.op = .call { callee := .builtin .append, args := #[s, x], argTypes := #[28, 28] }) {base : Nat} {v : Value} {l : List Int} {z : Int} (hs : a.eval s = v) (hv : OwI w0 base v l) (hb : base ≤ w0.heap.size) (hw : w = w0.alloc (.cells #[.int .i64 z] 3))
 (hvx : a.eval x = .slice (some ⟨w0.heap.size, 0, none⟩) 1 1) (hlen : l.length ≤ 1000000000)
 (h : ∀ v' w', OwI w' base v' (l ++ [z]) → Touch v.ownBlock.toList w0 w' → (v'.ownBlock = v.ownBlock ∨ ∃ j, v'.ownBlock = some j ∧ w0.heap.size ≤ j) → wpList Try.prog ops Q rest (a.put o.dst v') w') : wpList Try.prog ops Q (o :: rest) a w := by
 obtain ⟨i0, hi0, hz0, hz1, hz2⟩ := info_parts info_int
 subst hw
 have hv2 : (w0.alloc (.cells #[.int .i64 z] 3)).ownsRow base 3 1 v l.length (l.map fun x => Value.int .i64 x) := World.ownsRow.alloc hv _
 refine wpList_append_row hgd s x 28 ho base 0 3 i0 _ 1 8 Try.underlying28 hi0 hz0 hz1 hz2 rfl (by decide) (n := l.length) (m := 1) hs hv2 hvx (row_lit w0 0 3 1 1 [.int .i64 z] rfl (by unfold maxLen; omega) (Nat.zero_le _)) (by intro u hu; rw [List.mem_singleton.1 hu]; rfl) (by unfold maxLen; omega) (by omega) (by rw [World.size_alloc]; omega) ?_
 intro v' w' hr hg ho2
 refine h v' w' ?_ ?_ ?_
 ·show w'.ownsRow base 3 1 v' (l ++ [z]).length ((l ++ [z]).map _)
  rw [List.length_append, List.map_append]
  exact hr
 ·have h1 : Touch [] w0 (w0.alloc (.cells #[.int .i64 z] 3)) := (Touch.refl [] w0).alloc _
  exact (h1.mono (by simp)).trans (Touch.grown hg)
 ·rcases ho2 with e | e
  ·exact .inl e
  ·exact .inr ⟨_, e, by rw [World.size_alloc]; omega⟩
/-- n numbers, one after the other. -/
def rList : Nat → RS → RS × List Int
 | 0, r => (r, [])
 | n + 1, r => ((rInt (rList n r).1).1, (rList n r).2 ++ [(rInt (rList n r).1).2])
def rInts (r : RS) : RS × List Int := rList (rCount r.1.length r).2 (rCount r.1.length r).1
theorem rCount_le (x : Int) (hx : 0 ≤ x) (r : RS) : ((rCount x r).2 : Int) ≤ x := by
 unfold rCount
 split
 ·split
  ·split
   ·exact hx
   ·simp only; omega
  ·exact hx
 ·exact hx
theorem rList_len (n : Nat) (r : RS) : (rList n r).1.1.length ≤ r.1.length := by
 induction n with
 | zero => exact Nat.le_refl _
 | succ n ih => exact Nat.le_trans (rInt_len (rList n r).1.1 (rList n r).1.2) ih
theorem rList_size (n : Nat) (r : RS) : (rList n r).2.length = n := by
 induction n with
 | zero => rfl
 | succ n ih => show ((rList n r).2 ++ [_]).length = _; rw [List.length_append, ih]; rfl
theorem zag_i64 {n : Nat} (h : n < 2 ^ 64) : I64 (zag n) := by
 unfold zag I64
 split <;> omega
theorem rInt_i64 (r : RS) : I64 (rInt r).2 := zag_i64 (rNum_lt r.1 r.2)
theorem rList_i64 (n : Nat) (r : RS) : ∀ x ∈ (rList n r).2, I64 x := by
 induction n with
 | zero => intro x hx; cases hx
 | succ n ih =>
  intro x hx
  rcases List.mem_append.1 (show x ∈ (rList n r).2 ++ [_] from hx) with h | h
  ·exact ih x h
  ·rw [List.mem_singleton.1 h]; exact rInt_i64 _
/-- A list was read. -/
def GotL (w : World) (b : Nat) (k : Option Nat) (r : RS) (l : List Int) (e : Ending) (w' : World) : Prop := ∃ v, e = .returned v ∧ OwI w' w.heap.size v l ∧ Rd w' b k r.1 r.2 ∧ Touch [b] w w'
set_option maxRecDepth 100000 in
set_option maxHeartbeats 4000000 in
theorem readInts_c (b : Nat) (k : Option Nat) (l : List UInt8) (c : Int) (w : World) (h : Rd w b k l c) (hl : l.length ≤ 1000000000) (hk : ∀ j, k = some j → j < w.heap.size) :
 Calls Try.prog 85 #[at0 b] w (GotL w b k (rInts (l, c)).1 (rInts (l, c)).2) := by
 have H := hide h;have HL := hide hl;have HK := hide hk;have HBL := hide h.lt;clear h hl hk
 go_enter Try.func85, Try.ntmps85
 go_wp2_with fail
 refine (left_c b k l c w H.out).mono ?_
 rintro e w1 ⟨rfl, rfl⟩
 go_wp2_with fail
 refine (rdCount_c b k l c l.length (by have := HL.out; omega) w H.out (by have := HL.out; omega) HK.out).mono ?_
 rintro e w2 ⟨rfl, hr2, ht2⟩
 have HX : Hid (rInts (l, c) = rList (rCount l.length (l, c)).2 (rCount l.length (l, c)).1) := hide rfl
 have HC2 : Hid ((rCount l.length (l, c)).2 ≤ 1000000000) := hide (by have := rCount_le l.length (by omega) (l, c); have := HL.out; omega)
 have HR1 : Hid ((rCount l.length (l, c)).1.1.length ≤ 1000000000) := hide (Nat.le_trans (rCount_len _ _ _) HL.out)
 have HR2 := hide hr2;have HT2 := hide ht2
 generalize (rCount l.length (l, c)).2 = n at *
 generalize (rCount l.length (l, c)).1 = r1 at *
 clear hr2 ht2
 go_wp2_with fail
 go_loopw [3, 8] (fun v3 v8 wr => ∃ j : Nat, v8 = .int .i64 j ∧ j ≤ n ∧ OwI wr w.heap.size v3 (rList j r1).2 ∧ Rd wr b k (rList j r1).1.1 (rList j r1).1.2 ∧ Touch [b] w wr) (fun _ v8 _ => n - (intOf v8).toNat)
 case atStart => exact ⟨0, rfl, Nat.zero_le _, OwI.nil _ _, HR2.out, HT2.out⟩
 case round =>
  obtain ⟨j, rfl, hj, ho, hr, ht⟩ := hrel
  clear HR2 HT2;have hn7 := HC2.out;have HOI := hide ho;have HR := hide hr;have HT := hide ht;have HJ := hide hj;clear ho hr ht
  by_cases hlt : j < n
  ·have HLT := hide hlt
   have hji : (j : Int) < (n : Int) := by omega
   clear hlt hj
   go_wp2_with fail
   refine (rdInt_c b k (rList j r1).1.1 (rList j r1).1.2 _ HR.out (by have := rList_len j r1; have := HR1.out; omega)).mono ?_
   rintro e w3 ⟨rfl, hr3, ht3⟩
   have HR3 : Hid (Rd w3 b k (rList (j + 1) r1).1.1 (rList (j + 1) r1).1.2) := hide hr3
   have HT3 := hide (HT.out.trans ht3)
   have HO3 := hide (HOI.out.touch ht3 (fun g hg hm => by have := (HOI.out.lt g hg).1; have := HBL.out; simp only [List.mem_singleton] at hm; omega))
   have HSN : Hid ((rList (j + 1) r1).2 = (rList j r1).2 ++ [(rInt ((rList j r1).1.1, (rList j r1).1.2)).2]) := hide rfl
   have HLJ : Hid ((rList j r1).2.length ≤ 1000000000) := hide (by rw [rList_size]; have := HC2.out; have := HLT.out; omega)
   generalize (rInt ((rList j r1).1.1, (rList j r1).1.2)).2 = z at *
   clear hr3 ht3
   go_wp2_with (at_builtin; refine wpList_append_i rfl _ _ rfl (z := z) rfl HO3.out HT3.out.size rfl rfl HLJ.out ?_; intro v' w' hn' hb' _; have HN := hide hn'; have HB := hide hb'; clear hn' hb')
   have HOB : Hid (∀ g ∈ u3.ownBlock.toList, w.heap.size ≤ g) := hide (fun g hg => (HO3.out.lt g (by simpa using hg)).1)
   go_roundw
   case rel => exact ⟨j + 1, by go_num, HLT.out, by rw [HSN.out]; exact HN.out, HR3.out.touch HB.out (fun hm => by have := HOB.out _ hm; have := HBL.out; omega) (fun g hg hm => by have := HOB.out _ hm; have := HK.out g hg; omega), HT3.out.next HB.out (fun g hg => .inr (HOB.out g hg))⟩
   case measure => have := HLT.out; simp [intOf]; omega
  ·obtain rfl : j = n := by omega
   clear hlt hj
   go_wp2_with fail
   go_ret
   exact ⟨_, rfl, by rw [HX.out]; exact HOI.out, by rw [HX.out]; exact HR.out, HT.out⟩
end
section
open Go.ChangeShapes Go.WideShapes Go.ChangeAt Go.RowKit
theorem Own.plus {w0 W : World} {L : List (Nat × TypeId × List Value)} (h : Own w0 [] L W) (S : List Nat) (hb : ∀ s ∈ S, s < w0.heap.size) : Own w0 S L W := ⟨h.has, h.apart, h.touch.mono (by simp), hb⟩
def rCnt (r : RS) : RS × Nat := if (rInt r).2 < 0 ∨ ((rInt r).1.1.length : Int) < (rInt r).2 then ((rCount (-1) (rInt r).1).1, 0) else ((rInt r).1, (rInt r).2.toNat)
theorem rCnt_len (r : RS) : (rCnt r).1.1.length ≤ r.1.length := by
 have h1 := rInt_len r.1 r.2
 unfold rCnt
 split
 ·exact Nat.le_trans (rCount_len _ _ _) h1
 ·exact h1
theorem rCnt_le (r : RS) : (rCnt r).2 ≤ r.1.length := by
 have h1 : (rInt r).1.1.length ≤ r.1.length := rInt_len r.1 r.2
 unfold rCnt
 split
 ·exact Nat.zero_le _
 ·show (rInt r).2.toNat ≤ _
  omega
theorem ret_i64n {a : Int} {b : Nat} (h : a = b) : Ending.returned (.int .i64 a) = .returned (.int .i64 (b : Int)) := by rw [h]
set_option maxRecDepth 100000 in
set_option maxHeartbeats 4000000 in
theorem count_c (b : Nat) (k : Option Nat) (l : List UInt8) (c : Int) (w : World) (h : Rd w b k l c) (hl : l.length ≤ 1000000000) (hk : ∀ j, k = some j → j < w.heap.size) :
 Calls Try.prog 105 #[.agg #[at0 b]] w fun e w' => e = .returned (.int .i64 (rCnt (l, c)).2) ∧ Rd w' b k (rCnt (l, c)).1.1 (rCnt (l, c)).1.2 ∧ Touch [b] w w' := by
 have HBL := hide h.lt
 have HO := hide (Own.nil w [] (by simp))
 have H := hide h;have HL := hide hl;have HK := hide hk;clear h hl hk
 go_enter Try.func105, Try.ntmps105
 go_wp2_with ((with_reducible refine at_box 157 (.tmp 0) ?_); refine wpList_box_own HO.out rfl 157 (.tmp 0) rfl [at0 b] rfl ?_; intro WA g hO; replace HO := hide hO; clear hO; have k0 : WA.cell? ⟨g, 0, none⟩ = some (at0 b) := HO.out.cells 0 rfl 0)
 have HR1 := hide (H.out.step HO.out.below)
 replace HO := hide (HO.out.plus [b] (by simpa using HBL.out))
 refine (rdInt_c b k l c _ HR1.out (by have := HL.out; omega)).mono ?_
 rintro e w2 ⟨rfl, hr2, ht2⟩
 have HX : Hid (rCnt (l, c) = if (rInt (l, c)).2 < 0 ∨ ((rInt (l, c)).1.1.length : Int) < (rInt (l, c)).2 then ((rCount (-1) (rInt (l, c)).1).1, 0) else ((rInt (l, c)).1, (rInt (l, c)).2.toNat)) := hide rfl
 have HLN : Hid ((rInt (l, c)).1.1.length ≤ 1000000000) := hide (Nat.le_trans (rInt_len _ _) HL.out)
 have HI := hide (rInt_i64 (l, c))
 replace HO := hide (HO.out.call ht2 (by simp))
 have HR2 := hide hr2
 generalize (rInt (l, c)).2 = z at *
 generalize (rInt (l, c)).1 = r1 at *
 clear hr2 ht2 k0
 have k0 : w2.cell? ⟨g, 0, none⟩ = some (at0 b) := HO.out.cells 0 rfl 0
 have HKW : Hid (∀ j, k = some j → j < w2.heap.size) := hide (fun j hj => Nat.lt_of_lt_of_le (HK.out j hj) HO.out.size)
 by_cases hz : z < 0
 ·go_wp2_with fail
  refine (rdCount_c b k r1.1 r1.2 (-1) (by omega) w2 HR2.out (by have := HLN.out; omega) HKW.out).mono ?_
  rintro e w3 ⟨rfl, hr3, ht3⟩
  have HE : Hid (rCnt (l, c) = ((rCount (-1) r1).1, 0)) := hide (by rw [HX.out, if_pos (.inl hz)])
  have HR3 := hide hr3
  have HT3 := hide (HO.out.touch.trans ht3)
  clear hr3 ht3 hz
  go_wp2_with fail
  go_ret
  exact ⟨by rw [HE.out]; rfl, by rw [HE.out]; exact HR3.out, HT3.out⟩
 ·have hz2 : decide (z < 0) = false := by simp [hz]
  go_wp2_with fail
  refine (left_c b k r1.1 r1.2 w2 HR2.out).mono ?_
  rintro e w3 ⟨rfl, rfl⟩
  have HE0 : Hid (¬ ((r1.1.length : Int) < z) → rCnt (l, c) = (r1, z.toNat)) := hide (fun h => by rw [HX.out, if_neg (by omega)])
  have HE1 : Hid ((r1.1.length : Int) < z → rCnt (l, c) = ((rCount (-1) r1).1, 0)) := hide (fun h => by rw [HX.out, if_pos (.inr h)])
  have hm7 := HLN.out
  generalize hmm : r1.1.length = m at *
  have HMM := hide hmm;clear hmm
  by_cases hm : (m : Int) < z
  ·go_wp2_with fail
   refine (rdCount_c b k r1.1 r1.2 (-1) (by omega) w2 HR2.out (by rw [HMM.out]; omega) HKW.out).mono ?_
   rintro e w3 ⟨rfl, hr3, ht3⟩
   have HE := hide (HE1.out hm)
   have HR3 := hide hr3
   have HT3 := hide (HO.out.touch.trans ht3)
   clear hr3 ht3 hm
   go_wp2_with fail
   go_ret
   exact ⟨by rw [HE.out]; rfl, by rw [HE.out]; exact HR3.out, HT3.out⟩
  ·have HE := hide (HE0.out hm)
   have HZ : Hid (z = (z.toNat : Int)) := hide (by omega)
   have hm2 : decide ((m : Int) < z) = false := by simp [hm]
   have HT := hide HO.out.touch
   go_wp2_with fail
   go_ret
   exact ⟨by rw [HE.out]; exact ret_i64n HZ.out, by rw [HE.out]; exact HR2.out, HT.out⟩
/-- A list of a group's message. -/
def rGL (r : RS) : RS × List Int := rList (rCnt r).2 (rCnt r).1
set_option maxRecDepth 100000 in
set_option maxHeartbeats 4000000 in
theorem rlist_c (b : Nat) (k : Option Nat) (l : List UInt8) (c : Int) (w : World) (h : Rd w b k l c) (hl : l.length ≤ 1000000000) (hk : ∀ j, k = some j → j < w.heap.size) :
 Calls Try.prog 106 #[.agg #[at0 b]] w (GotL w b k (rGL (l, c)).1 (rGL (l, c)).2) := by
 have HBL := hide h.lt
 have HO := hide (Own.nil w [] (by simp))
 have H := hide h;have HL := hide hl;have HK := hide hk;clear h hl hk
 go_enter Try.func106, Try.ntmps106
 go_wp2_with (first
  | ((with_reducible refine at_box 157 (.tmp 0) ?_); refine wpList_box_own HO.out rfl 157 (.tmp 0) rfl [at0 b] rfl ?_; intro WA g hO; replace HO := hide hO; clear hO)
  | ((with_reducible refine at_load 157 (.tmp 1) ?_); refine wpList_load_own HO.out rfl 157 (.tmp 1) rfl 0 _ 0 1 _ _ [at0 b] _ rfl rfl rfl Try.underlying157 rfl (by kernel_rfl) ?_))
 have HR1 := hide (H.out.step HO.out.below)
 replace HO := hide (HO.out.plus [b] (by simpa using HBL.out))
 have HK1 : Hid (∀ j, k = some j → j < WA.heap.size) := hide (fun j hj => Nat.lt_of_lt_of_le (HK.out j hj) HO.out.size)
 refine (count_c b k l c WA HR1.out HL.out HK1.out).mono ?_
 rintro e w2 ⟨rfl, hr2, ht2⟩
 have HX : Hid (rGL (l, c) = rList (rCnt (l, c)).2 (rCnt (l, c)).1) := hide rfl
 have HC2 : Hid ((rCnt (l, c)).2 ≤ 1000000000) := hide (Nat.le_trans (rCnt_le _) HL.out)
 have HRL : Hid ((rCnt (l, c)).1.1.length ≤ 1000000000) := hide (Nat.le_trans (rCnt_len _) HL.out)
 have HR2 := hide hr2
 replace HO := hide (HO.out.call ht2 (by simp))
 generalize (rCnt (l, c)).2 = n at *
 generalize (rCnt (l, c)).1 = r1 at *
 clear hr2 ht2;have hn7 := HC2.out
 go_wp2_with fail
 go_loopw [3, 6] (fun v3 v6 wr => ∃ j : Nat, v6 = .int .i64 j ∧ j ≤ n ∧ OwI wr w.heap.size v3 (rList j r1).2 ∧ Rd wr b k (rList j r1).1.1 (rList j r1).1.2 ∧ Own w [b] ([] ++ [(g, 157, [at0 b])]) wr ∧ (∀ q, v3.ownBlock = some q → q ≠ g)) (fun _ v6 _ => n - (intOf v6).toNat)
 case atStart => exact ⟨0, rfl, Nat.zero_le _, OwI.nil _ _, HR2.out, HO.out, fun q hq => by cases hq⟩
 case round =>
  obtain ⟨j, rfl, hj, ho, hr, hown, hqg⟩ := hrel
  clear HR2 HO;have HOI := hide ho;have HR := hide hr;have HO := hide hown;have HQ := hide hqg;have HJ := hide hj;clear ho hr hown hqg
  by_cases hlt : j < n
  ·have HLT := hide hlt
   have hji : (j : Int) < (n : Int) := by omega
   have k0 : wr.cell? ⟨g, 0, none⟩ = some (at0 b) := HO.out.cells 0 rfl 0
   clear hlt hj
   go_wp2_with fail
   refine (rdInt_c b k (rList j r1).1.1 (rList j r1).1.2 _ HR.out (by have := rList_len j r1; have := HRL.out; omega)).mono ?_
   rintro e w3 ⟨rfl, hr3, ht3⟩
   have HR3 : Hid (Rd w3 b k (rList (j + 1) r1).1.1 (rList (j + 1) r1).1.2) := hide hr3
   have HO3 := hide (HO.out.call ht3 (by simp))
   have HI3 := hide (HOI.out.touch ht3 (fun g hg hm => by have := (HOI.out.lt g hg).1; have := HBL.out; simp only [List.mem_singleton] at hm; omega))
   have HSN : Hid ((rList (j + 1) r1).2 = (rList j r1).2 ++ [(rInt ((rList j r1).1.1, (rList j r1).1.2)).2]) := hide rfl
   have HLJ : Hid ((rList j r1).2.length ≤ 1000000000) := hide (by rw [rList_size]; have := HC2.out; have := HLT.out; omega)
   generalize (rInt ((rList j r1).1.1, (rList j r1).1.2)).2 = z at *
   clear hr3 ht3 k0
   go_wp2_with (at_builtin; refine wpList_append_i rfl _ _ rfl (v := u3) (z := z) rfl HI3.out HO3.out.size rfl rfl HLJ.out ?_; intro v' w' hn' hb' hq'; have HN := hide hn'; have HB := hide hb'; have HQ2 := hide hq'; clear hn' hb' hq')
   have HOB : Hid (∀ q ∈ u3.ownBlock.toList, w.heap.size ≤ q) := hide (fun q hq => (HI3.out.lt q (by simpa using hq)).1)
   have HG : Hid (g < w3.heap.size ∧ w.heap.size ≤ g) := hide ⟨(HO3.out.blk 0 rfl).lt, HO3.out.new 0 rfl⟩
   have HON : Hid (Own w [b] ([] ++ [(g, 157, [at0 b])]) w') := hide ⟨fun e he => by
    obtain rfl : e = (g, 157, [at0 b]) := by simpa using he
    exact ⟨(HO3.out.blk 0 rfl).touch HB.out (fun hm => HQ.out g (by simpa using hm) rfl), HG.out.2⟩, by simp, HO3.out.touch.next HB.out (fun q hq => .inr (HOB.out q hq)), HO3.out.old⟩
   have HQN : Hid (∀ q, v'.ownBlock = some q → q ≠ g) := hide (fun q hq => by
    rcases HQ2.out with e | ⟨y, e, hy⟩
    ·exact HQ.out q (by rw [← e]; exact hq)
    ·rw [hq] at e; injection e with e; have := HG.out.1; omega)
   go_roundw
   case rel => exact ⟨j + 1, by go_num, HLT.out, by rw [HSN.out]; exact HN.out, HR3.out.touch HB.out (fun hm => by have := HOB.out _ hm; have := HBL.out; omega) (fun q hq hm => by have := HOB.out _ hm; have := HK.out q hq; omega), HON.out, HQN.out⟩
   case measure => have := HLT.out; simp [intOf]; omega
  ·obtain rfl : j = n := by omega
   have HT := hide HO.out.touch;clear hlt hj
   go_wp2_with fail
   go_ret
   exact ⟨_, rfl, by rw [HX.out]; exact HOI.out, by rw [HX.out]; exact HR.out, HT.out⟩
end
end Go.Proofs.Ytpbgelhjbfckcaa
