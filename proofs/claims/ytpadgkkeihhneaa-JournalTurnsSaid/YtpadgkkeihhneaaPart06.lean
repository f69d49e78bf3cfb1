/- A reader's methods: what each does, as a step of the plain reader. -/
import Derived.Test.YtpadgkkeihhneaaPart05
import Derived.WalkSpells
import Derived.Test.YtpadgkkeihhneaaPart02
namespace Go.Proofs.Ytpadgkkeihhneaa
set_option maxRecDepth 100000
set_option linter.unusedSimpArgs false
set_option linter.unusedVariables false
open Go.ChangeShapes Go.WideShapes Go.ChangeAt Go.RowKit
set_option linter.unusedVariables false

/-- A method's call: the reader makes the step, nothing else that lay there has turned. -/
def Step1 (w : World) (b : Nat) (k : Option Nat) (r : RS) (v : Value) (e : Ending) (w' : World) : Prop := e = .returned v ∧ Rd w' b k r.1 r.2 ∧ Touch [b] w w'

/-- Shapes of the bytes at a number. -/
theorem parse_cases (l : List UInt8) :
    (l = [] ∧ parseN l = none) ∨ (∃ x t, l = x :: t ∧ 8 < x.toNat ∧ parseN l = none) ∨ (∃ x t, l = x :: t ∧ x.toNat ≤ 8 ∧ t.length < x.toNat ∧ parseN l = none) ∨
    (∃ x t, l = x :: 0 :: t ∧ x.toNat ≤ 8 ∧ 0 < x.toNat ∧ x.toNat ≤ t.length + 1 ∧ parseN l = none) ∨
    (∃ x t, l = x :: t ∧ x.toNat ≤ 8 ∧ x.toNat ≤ t.length ∧ ¬ (0 < x.toNat ∧ t.headD 1 = 0) ∧ parseN l = some (num (t.take x.toNat), t.drop x.toNat)) := by
  cases l with
  | nil => exact .inl ⟨rfl, rfl⟩
  | cons x t =>
    right
    by_cases h1 : 8 < x.toNat
    · exact .inl ⟨x, t, rfl, h1, by unfold parseN; exact if_pos (.inl h1)⟩
    right
    by_cases h2 : t.length < x.toNat
    · exact .inl ⟨x, t, rfl, by omega, h2, by unfold parseN; exact if_pos (.inr (.inl h2))⟩
    right
    by_cases h3 : 0 < x.toNat ∧ t.headD 1 = 0
    · left
      have hp : parseN (x :: t) = none := by unfold parseN; exact if_pos (.inr (.inr h3))
      obtain ⟨h3, h4⟩ := h3
      cases t with
      | nil => simp at h4
      | cons y t =>
        rw [List.headD_cons] at h4
        subst h4
        exact ⟨x, t, rfl, by omega, h3, by simp at h2; omega, hp⟩
    · right
      refine ⟨x, t, rfl, by omega, by omega, h3, ?_⟩
      unfold parseN
      exact if_neg (fun h => h.elim h1 (fun h => h.elim h2 h3))

theorem number_bad (b : Nat) (k : Option Nat) (l : List UInt8) (c : Int) (w : World) (h : Rd w b k l c) (hl : l.length ≤ 140737488355328) (hp : parseN l = none) :
    Calls Try.prog 57 #[.pointer (some ⟨b, 0, none⟩)] w (NumBad w b k l.length c) := by
  rcases parse_cases l with ⟨rfl, _⟩ | ⟨x, t, rfl, h1, _⟩ | ⟨x, t, rfl, h1, h2, _⟩ | ⟨x, t, rfl, h1, h2, h3, _⟩ | ⟨x, t, rfl, h1, h2, h3, h4⟩
  · exact number_nil b k c w h
  · exact number_high b k x t c w h hl h1
  · exact number_short b k x t c w h hl h1 h2
  · exact number_zero b k x t c w h hl h1 h2 h3
  · rw [h4] at hp; cases hp
theorem number_got (b : Nat) (k : Option Nat) (l : List UInt8) (c : Int) (w : World) (h : Rd w b k l c) (hl : l.length ≤ 140737488355328) {n : Nat} {t : List UInt8} (hp : parseN l = some (n, t)) :
    Calls Try.prog 57 #[.pointer (some ⟨b, 0, none⟩)] w (NumGot w b k n t c) := by
  rcases parse_cases l with ⟨rfl, h4⟩ | ⟨x, t, rfl, h1, h4⟩ | ⟨x, t, rfl, h1, h2, h4⟩ | ⟨x, t, rfl, h1, h2, h3, h4⟩ | ⟨x, t, rfl, h1, h2, h3, h4⟩
  · rw [h4] at hp; cases hp
  · rw [h4] at hp; cases hp
  · rw [h4] at hp; cases hp
  · rw [h4] at hp; cases hp
  · rw [h4] at hp
    injection hp with hp
    injection hp with e1 e2
    subst e1 e2
    exact number_some b k x t c w h hl h1 h2 h3
theorem parse_len {l t : List UInt8} {n : Nat} (h : parseN l = some (n, t)) : t.length < l.length := by
  have := congrArg List.length (parseN_some h).1
  simp [enc] at this
  omega

set_option maxHeartbeats 1000000 in
theorem rdNumber_c (b : Nat) (k : Option Nat) (l : List UInt8) (c : Int) (w : World) (h : Rd w b k l c) (hl : l.length ≤ 140737488355328) :
    Calls Try.prog 46 #[.pointer (some ⟨b, 0, none⟩)] w (Step1 w b k (rNum (l, c)).1 (.int .u64 (rNum (l, c)).2)) := by
  have H := hide h
  by_cases hc : c = 0
  · subst hc
    cases hp : parseN l with
    | none =>
      have hr : rNum (l, 0) = (bad 11, 0) := by simp [rNum, hp]
      rw [hr]
      have HF := hide ((number_bad b k l 0 w h hl hp).mono (R' := FnBad [b] w b k 11 (fun _ => True)) (fun e w' ⟨h1, ⟨l', h2, _⟩, h3⟩ => ⟨h1, ⟨l', h2⟩, Touch.one h3, trivial⟩))
      clear h hp hr
      go_enter Try.func46, Try.ntmps46
      go_wp2_with fail
      refine (readNumber_bad [b] b k l 11 (by decide) (fun _ => True) w H.out (by simp) HF.out).mono ?_
      rintro e w1 ⟨rfl, h1, h2, _⟩
      go_wp2_with fail
      go_ret
      exact ⟨rfl, h1, h2⟩
    | some p =>
      obtain ⟨n, t⟩ := p
      have hr : rNum (l, 0) = ((t, 0), n) := by simp [rNum, hp]
      rw [hr]
      have HF := hide ((number_got b k l 0 w h hl hp).mono (R' := FnGot [b] w b k n t (fun _ => True)) (fun e w' ⟨h1, h2, h3⟩ => ⟨h1, h2, Touch.one h3, trivial⟩))
      clear h hp hr
      go_enter Try.func46, Try.ntmps46
      go_wp2_with fail
      refine (readNumber_got [b] b k l n t (fun _ => True) w H.out HF.out).mono ?_
      rintro e w1 ⟨rfl, h1, h2, _⟩
      go_wp2_with fail
      go_ret
      exact ⟨rfl, h1, h2⟩
  · have hr : rNum (l, c) = ((l, c), 0) := by simp [rNum, hc]
    rw [hr]
    clear h hr
    have HC := hide hc
    clear hc
    go_enter Try.func46, Try.ntmps46
    go_wp2_with fail
    refine (read_stopped b k l c _ w H.out HC.out).mono ?_
    rintro e w1 ⟨rfl, rfl⟩
    go_wp2_with fail
    go_ret
    exact ⟨rfl, H.out, Touch.refl _ _⟩
end Go.Proofs.Ytpadgkkeihhneaa
/- A reader's methods: Int, Bool, Left, End, NewReader. -/
namespace Go.Proofs.Ytpadgkkeihhneaa
set_option maxRecDepth 100000
set_option linter.unusedSimpArgs false
set_option linter.unusedVariables false
open Go.ChangeShapes Go.WideShapes Go.ChangeAt Go.RowKit
set_option linter.unusedVariables false

theorem rNum_lt (l : List UInt8) (c : Int) : (rNum (l, c)).2 < 2 ^ 64 := by
  unfold rNum
  split
  · split
    · rename_i h; exact (parseN_some h).2
    · simp
  · simp
theorem rNum_len (l : List UInt8) (c : Int) : (rNum (l, c)).1.1.length ≤ l.length := by
  unfold rNum
  split
  · split
    · rename_i h; exact Nat.le_of_lt (parse_len h)
    · simp [bad]
  · simp

theorem ret_i64 {a b : Int} (h : a = b) : Ending.returned (.int .i64 a) = .returned (.int .i64 b) := by rw [h]
theorem zag_bits (n : Nat) (hn : n < 2 ^ 64) : bits BinOp.xor IntKind.i64 ((n : Int) / 2) (wrap64 (-wrap64 (bits BinOp.and IntKind.u64 (n : Int) 1))) = zag n := by
  have hw : ∀ z : Int, IntKind.u64.wrap z = z % 18446744073709551616 := fun z => by simp [IntKind.wrap, IntKind.signed, IntKind.bits]
  have hs : ∀ z : Int, 0 ≤ z → z < 18446744073709551616 → IntKind.i64.wrap z = if z < 9223372036854775808 then z else z - 18446744073709551616 := fun z h0 h1 => by
    simp only [IntKind.wrap, IntKind.signed, IntKind.bits, Bool.true_and, decide_eq_true_eq]
    by_cases h : z < 9223372036854775808
    · rw [if_pos h, if_neg (by simp; omega)]; simp; omega
    · rw [if_neg h, if_pos (by simp; omega)]; simp; omega
  have ha : bits BinOp.and IntKind.u64 (n : Int) 1 = ((n % 2 : Nat) : Int) := by
    show IntKind.u64.wrap ((BitVec.ofInt 64 (n : Int) &&& BitVec.ofInt 64 1).toNat : Int) = _
    rw [hw, show (1 : Int) = ((1 : Nat) : Int) from rfl, BitVec.ofInt_natCast, BitVec.ofInt_natCast, BitVec.toNat_and, BitVec.toNat_ofNat, BitVec.toNat_ofNat, Nat.mod_eq_of_lt hn, Nat.mod_eq_of_lt (show 1 < 2 ^ 64 by decide), Nat.and_one_is_mod]
    omega
  rw [ha]
  have hd : (n : Int) / 2 = ((n / 2 : Nat) : Int) := by omega
  rw [hd]
  show IntKind.i64.wrap ((BitVec.ofInt 64 ((n / 2 : Nat) : Int) ^^^ BitVec.ofInt 64 (wrap64 (-wrap64 ((n % 2 : Nat) : Int)))).toNat : Int) = _
  unfold zag
  by_cases h2 : n % 2 = 0
  · rw [if_pos h2, h2, show wrap64 (-wrap64 ((0 : Nat) : Int)) = 0 from by decide +kernel, show BitVec.ofInt 64 0 = 0#64 from rfl, BitVec.xor_zero, BitVec.ofInt_natCast, BitVec.toNat_ofNat, Nat.mod_eq_of_lt (by omega), hs _ (by omega) (by omega), if_pos (by omega)]
  · rw [if_neg h2, show n % 2 = 1 by omega, show wrap64 (-wrap64 ((1 : Nat) : Int)) = -1 from by decide +kernel, show BitVec.ofInt 64 (-1) = BitVec.allOnes 64 from rfl, BitVec.xor_allOnes, BitVec.toNat_not, BitVec.ofInt_natCast, BitVec.toNat_ofNat, Nat.mod_eq_of_lt (show n / 2 < 2 ^ 64 by omega), hs _ (by omega) (by omega), if_neg (by omega)]
    omega
theorem zag_lt (n : Nat) (hn : n < 2 ^ 64) : -9223372036854775808 ≤ zag n ∧ zag n ≤ 9223372036854775807 := by unfold zag; split <;> omega
theorem zag_zig (i : Int) : zag (zig i) = i := by unfold zag zig; split <;> split <;> omega
theorem zig_zag (n : Nat) : zig (zag n) = n := by unfold zag zig; split <;> split <;> omega
/-- A box that holds a pointer to the reader. -/
def BoxP (w : World) (q b : Nat) : Prop := w.cell? ⟨q, 0, none⟩ = some (.pointer (some ⟨b, 0, none⟩))
theorem boxP_new (w : World) (b : Nat) : BoxP (w.alloc (.cells #[.pointer (some ⟨b, 0, none⟩)] 83)) w.heap.size b := (Blk.new w _ _).cell 0

theorem touch_alloc {S : List Nat} {w w' : World} {o : Obj} (h : Touch S (w.alloc o) w') : Touch S w w' := ((Touch.refl S w).alloc o).trans h
theorem ret_bool {a b : Bool} (h : a = b) : Ending.returned (.bool a) = .returned (.bool b) := by rw [h]

end Go.Proofs.Ytpadgkkeihhneaa
/- A reader's methods: Text, Count, NewReader. -/
namespace Go.Proofs.Ytpadgkkeihhneaa
set_option maxRecDepth 100000
set_option linter.unusedSimpArgs false
set_option linter.unusedVariables false
open Go.ChangeShapes Go.WideShapes Go.ChangeAt Go.RowKit
set_option linter.unusedVariables false

/-- A box that holds a text. -/
def BoxS (w : World) (s : Nat) (x : ByteArray) : Prop := Blk w s 9 #[.string x]
theorem BoxS.cells {w : World} {s : Nat} {x : ByteArray} (h : BoxS w s x) : w.cell? ⟨s, 0, none⟩ = some (.string x) ∧ w.frozen? ⟨s, 0, none⟩ = false := ⟨Blk.cell h 0, Blk.froz h 0⟩

set_option maxHeartbeats 1000000 in
theorem textC_bad (q s b : Nat) (k : Option Nat) (l : List UInt8) (x : ByteArray) (w : World) (h : Rd w b k l 0) (hl : l.length ≤ 140737488355328) (hp : parseN l = none) (hq : BoxP w q b) (hs : BoxS w s x) (hqb : q ≠ b) (hsb : s ≠ b) (hql : q < w.heap.size) :
    Calls Try.prog 64 #[.pointer (some ⟨q, 0, none⟩), .pointer (some ⟨s, 0, none⟩)] w (FnBad [b, s] w b k 11 (fun w' => BoxS w' s x)) := by
  have HN := hide (number_bad b k l 0 w h hl hp)
  have HS := hide hs
  have hq0 := hq
  unfold BoxP at hq
  clear hs h
  go_enter Try.func64, Try.ntmps64
  go_wp2_with fail
  refine HN.out.mono ?_
  rintro e w1 ⟨rfl, ⟨l', hr, hl'⟩, hg⟩
  have hq1 : w1.cell? ⟨q, 0, none⟩ = some (.pointer (some ⟨b, 0, none⟩)) := (World.cell?_of_block (hg.block q hql (by intro e; injection e with e; exact hqb e))).trans hq
  have HS1 := hide (Blk.grown HS.out hg (by intro e; injection e with e; exact hsb e))
  have HG := hide hg
  have HR := hide hr
  have HL := hide (show l'.length ≤ 140737488355328 by omega)
  clear hg hr hq hl' hq0
  go_wp2_with fail
  refine (take_yes b k l' 0 0 w1 HR.out (Nat.zero_le _) HL.out).mono ?_
  rintro e w2 ⟨v2, rfl, _, _, hr2, hg2⟩
  have HG2 := hide (grown_trans HG.out hg2)
  have HR2 := hide hr2
  have HS2 : Hid (BoxS w2 s x) := hide (Blk.grown HS1.out hg2 (by intro e; injection e with e; exact hsb e))
  clear hg2 hr2
  go_wp2_with fail
  go_ret2
  exact ⟨rfl, ⟨_, HR2.out⟩, (Touch.one HG2.out).mono (by simp), HS2.out⟩

set_option maxHeartbeats 1000000 in
theorem textC_short (q s b : Nat) (k : Option Nat) (l : List UInt8) (x : ByteArray) (w : World) (h : Rd w b k l 0) (hl : l.length ≤ 140737488355328) {n : Nat} {t : List UInt8} (hp : parseN l = some (n, t)) (ht : t.length < n) (hq : BoxP w q b) (hs : BoxS w s x) (hqb : q ≠ b) (hsb : s ≠ b) (hql : q < w.heap.size) :
    Calls Try.prog 64 #[.pointer (some ⟨q, 0, none⟩), .pointer (some ⟨s, 0, none⟩)] w (FnBad [b, s] w b k 11 (fun w' => BoxS w' s x)) := by
  have HN := hide (number_got b k l 0 w h hl hp)
  have HS := hide hs
  have HT := hide ht
  have hlt := parse_len hp
  have HL := hide (show t.length ≤ 140737488355328 by omega)
  unfold BoxP at hq
  clear hs h ht hp hlt hl
  go_enter Try.func64, Try.ntmps64
  go_wp2_with fail
  refine HN.out.mono ?_
  rintro e w1 ⟨rfl, hr, hg⟩
  have hq1 : w1.cell? ⟨q, 0, none⟩ = some (.pointer (some ⟨b, 0, none⟩)) := (World.cell?_of_block (hg.block q hql (by intro e; injection e with e; exact hqb e))).trans hq
  have HS1 : Hid (BoxS w1 s x) := hide (Blk.grown HS.out hg (by intro e; injection e with e; exact hsb e))
  have HG := hide hg
  have HR := hide hr
  clear hg hr hq
  go_wp2_with fail
  refine (take_no b k t 0 n w1 HR.out HT.out HL.out).mono ?_
  rintro e w2 ⟨rfl, rfl⟩
  go_wp2_with fail
  go_ret2
  exact ⟨rfl, ⟨_, HR.out⟩, (Touch.one HG.out).mono (by simp), HS1.out⟩

set_option maxHeartbeats 1000000 in
theorem textC_got (q s b : Nat) (k : Option Nat) (l : List UInt8) (x : ByteArray) (w : World) (h : Rd w b k l 0) (hl : l.length ≤ 140737488355328) {n : Nat} {t : List UInt8} (hp : parseN l = some (n, t)) (ht : n ≤ t.length) (hq : BoxP w q b) (hs : BoxS w s x) (hqb : q ≠ b) (hsb : s ≠ b) (hsk : k ≠ some s) (hql : q < w.heap.size) :
    Calls Try.prog 64 #[.pointer (some ⟨q, 0, none⟩), .pointer (some ⟨s, 0, none⟩)] w (FnGot [b, s] w b k 0 (t.drop n) (fun w' => BoxS w' s ⟨(t.take n).toArray⟩)) := by
  have HN := hide (number_got b k l 0 w h hl hp)
  have HS := hide hs
  have HT := hide ht
  have hlt := parse_len hp
  have HL := hide (show t.length ≤ 140737488355328 by omega)
  unfold BoxP at hq
  clear hs h ht hp hlt hl
  go_enter Try.func64, Try.ntmps64
  go_wp2_with fail
  refine HN.out.mono ?_
  rintro e w1 ⟨rfl, hr, hg⟩
  have hq1 : w1.cell? ⟨q, 0, none⟩ = some (.pointer (some ⟨b, 0, none⟩)) := (World.cell?_of_block (hg.block q hql (by intro e; injection e with e; exact hqb e))).trans hq
  have HS1 : Hid (BoxS w1 s x) := hide (Blk.grown HS.out hg (by intro e; injection e with e; exact hsb e))
  have HG := hide hg
  have HR := hide hr
  clear hg hr hq
  go_wp2_with fail
  refine (take_yes b k t 0 n w1 HR.out HT.out HL.out).mono ?_
  rintro e w2 ⟨v2, rfl, hb2, _, hr2, hg2⟩
  have HG2 := hide (grown_trans HG.out hg2)
  have HR2 := hide hr2
  have HS2 : Hid (BoxS w2 s x) := hide (Blk.grown HS1.out hg2 (by intro e; injection e with e; exact hsb e))
  have hcv := run_string_bs hb2
  obtain ⟨sc, sf⟩ := HS2.out.cells
  clear hg2 hr2 hb2 hq1
  go_wp2_with fail
  go_ret2
  refine ⟨rfl, HR2.out.far (grown_set (grown_refl _ (some s)) 0 _) (by simpa using hsb) (fun j hj e => hsk (by rw [hj]; exact e.symm)), ((Touch.one HG2.out).mono (T := [b, s]) (by simp)).set (by simp) 0 _, Blk.put HS2.out 0 _⟩

theorem rText_len (l : List UInt8) (c : Int) : (rText (l, c)).1.1.length ≤ l.length := by
  unfold rText
  split
  · split
    · rename_i h
      have h1 := parse_len h
      have h2 : l.length = (l, c).1.length := rfl
      split
      · simp [bad]
      · simp only [List.length_drop]; omega
    · simp [bad]
  · simp
theorem ret_str {a b : ByteArray} (h : a = b) : Ending.returned (.string a) = .returned (.string b) := by rw [h]

set_option maxHeartbeats 2000000 in
theorem rdText_c (b : Nat) (k : Option Nat) (l : List UInt8) (c : Int) (w : World) (h : Rd w b k l c) (hl : l.length ≤ 140737488355328) (hk : ∀ j, k = some j → j < w.heap.size) :
    Calls Try.prog 52 #[.pointer (some ⟨b, 0, none⟩)] w (Step1 w b k (rText (l, c)).1 (.string ⟨(rText (l, c)).2.toArray⟩)) := by
  have hblt := h.lt
  have H := hide ((h.alloc (.cells #[.pointer (some ⟨b, 0, none⟩)] 83)).alloc (.cells #[.string ⟨#[]⟩] 9))
  clear h
  obtain ⟨w0, hw0⟩ : ∃ w0, w0 = (w.alloc (.cells #[.pointer (some ⟨b, 0, none⟩)] 83)).alloc (.cells #[.string ⟨#[]⟩] 9) := ⟨_, rfl⟩
  have hq : BoxP w0 w.heap.size b := by rw [hw0]; exact ((Blk.new w _ _).alloc _).cell 0
  have hs : BoxS w0 (w.heap.size + 1) ⟨#[]⟩ := by rw [hw0]; have := Blk.new (w.alloc (.cells #[.pointer (some ⟨b, 0, none⟩)] 83)) 9 #[.string ⟨#[]⟩]; simp only [World.size_alloc] at this; exact this
  have hT : Touch [] w w0 := by rw [hw0]; exact ((Touch.refl [] w).alloc _).alloc _
  have hql : w.heap.size < w0.heap.size := by rw [hw0]; simp; omega
  have hback : ∀ (w1 : World), Touch [b, w.heap.size + 1] w0 w1 → Touch [b] w w1 := fun w1 h1 => (hT.mono (T := [b]) (by simp)).next h1 (by simp)
  rw [← hw0] at H
  have HB := hide hback
  have HW := hide hw0
  clear hback hw0
  by_cases hc : c = 0
  · subst hc
    have HX : ∀ (HF : Calls Try.prog 64 #[.pointer (some ⟨w.heap.size, 0, none⟩), .pointer (some ⟨w.heap.size + 1, 0, none⟩)] w0 (FnBad [b, w.heap.size + 1] w0 b k 11 (fun w' => BoxS w' (w.heap.size + 1) ⟨#[]⟩))),
        Calls Try.prog 52 #[.pointer (some ⟨b, 0, none⟩)] w (Step1 w b k (bad 11) (.string ⟨#[]⟩)) := by
      intro HF
      have HF := hide (readText_bad w.heap.size (w.heap.size + 1) [b, w.heap.size + 1] b k l 11 (by decide) (fun w' => BoxS w' (w.heap.size + 1) ⟨#[]⟩) w0 H.out (by simp) HF)
      clear hq hs hT hql
      go_enter Try.func52, Try.ntmps52
      go_wp2_with fail
      rw [HW.out] at HF HB
      refine HF.out.mono ?_
      rintro e w1 ⟨rfl, h1, h2, wx, hx1, hx2⟩
      have hb1 : BoxS w1 (w.heap.size + 1) ⟨#[]⟩ := Blk.touch hx1 hx2 (by simp; omega)
      obtain ⟨sc, sf⟩ := hb1.cells
      have H1 := hide h1
      have H2 := hide (HB.out _ h2)
      clear h1 h2 hx1 hx2 hb1
      go_wp2_with fail
      go_ret
      exact ⟨rfl, H1.out, H2.out⟩
    cases hp : parseN l with
    | none =>
      have hr : rText (l, 0) = (bad 11, []) := by simp [rText, hp]
      rw [hr]
      exact HX (textC_bad _ _ b k l _ _ H.out hl hp hq hs (by omega) (by omega) hql)
    | some p =>
      obtain ⟨n, t⟩ := p
      by_cases ht : t.length < n
      · have hr : rText (l, 0) = (bad 11, []) := by simp [rText, hp, ht]
        rw [hr]
        exact HX (textC_short _ _ b k l _ _ H.out hl hp ht hq hs (by omega) (by omega) hql)
      · have hr : rText (l, 0) = ((t.drop n, 0), t.take n) := by simp [rText, hp, ht]
        rw [hr]
        have HF := hide (readText_got w.heap.size (w.heap.size + 1) [b, w.heap.size + 1] b k l 0 (t.drop n) (fun w' => BoxS w' (w.heap.size + 1) ⟨(t.take n).toArray⟩) w0 H.out (textC_got _ _ b k l _ _ H.out hl hp (by omega) hq hs (by omega) (by omega) (fun e => by have := hk _ e; omega) hql))
        clear hq hs hT hql hr HX ht hp
        generalize (t.take n).toArray = xs at *
        generalize t.drop n = r at *
        go_enter Try.func52, Try.ntmps52
        go_wp2_with fail
        rw [HW.out] at HF HB
        refine HF.out.mono ?_
        rintro e w1 ⟨rfl, h1, h2, hb1⟩
        obtain ⟨sc, sf⟩ := BoxS.cells hb1
        have H1 := hide h1
        have H2 := hide (HB.out _ h2)
        clear h1 h2 hb1
        go_wp2_with fail
        go_ret
        exact ⟨rfl, H1.out, H2.out⟩
  · have hr : rText (l, c) = ((l, c), []) := by simp [rText, hc]
    rw [hr]
    have HF := hide (read_stopped b k l c (.func (.func 64) #[] #[.pointer (some ⟨w.heap.size, 0, none⟩), .pointer (some ⟨w.heap.size + 1, 0, none⟩)]) w0 H.out hc)
    have HT := hide hT
    have HSS := hide hs
    clear hq hs hT hql hr hc
    go_enter Try.func52, Try.ntmps52
    go_wp2_with fail
    rw [HW.out] at HF HB HT H HSS
    refine HF.out.mono ?_
    rintro e w1 ⟨rfl, rfl⟩
    obtain ⟨sc, sf⟩ := HSS.out.cells
    go_wp2_with fail
    go_ret
    exact ⟨rfl, H.out, HT.out.mono (by simp)⟩
end Go.Proofs.Ytpadgkkeihhneaa
/- A reader's methods: Count, NewReader. -/
namespace Go.Proofs.Ytpadgkkeihhneaa
set_option maxRecDepth 100000
set_option linter.unusedSimpArgs false
set_option linter.unusedVariables false
open Go.ChangeShapes Go.WideShapes Go.ChangeAt Go.RowKit
set_option linter.unusedVariables false

/-- A box that holds an integer. -/
def BoxI (w : World) (s : Nat) (x : Int) : Prop := w.cell? ⟨s, 0, none⟩ = some (.int .i64 x)

theorem rCount_len (x : Int) (l : List UInt8) (c : Int) : (rCount x (l, c)).1.1.length ≤ l.length := by
  unfold rCount
  split
  · split
    · rename_i h
      have h1 := parse_len h
      split
      · simp [bad]
      · exact Nat.le_of_lt h1
    · simp [bad]
  · simp
theorem rBool_len (l : List UInt8) (c : Int) : (rBool (l, c)).1.1.length ≤ l.length := by
  unfold rBool
  split
  · cases l with
    | nil => simp [bad]
    | cons x t =>
      simp only
      split <;> simp [bad]
  · simp
theorem rInt_len (l : List UInt8) (c : Int) : (rInt (l, c)).1.1.length ≤ l.length := rNum_len l c

/-- A new reader, which lies in new memory. -/
def NewRd (w : World) (l : List UInt8) (e : Ending) (w' : World) : Prop :=
  ∃ b k, e = .returned (.pointer (some ⟨b, 0, none⟩)) ∧ Rd w' b k l 0 ∧ Below w.heap.size w w' ∧ w.heap.size ≤ b ∧ (∀ j, k = some j → w.heap.size ≤ j ∧ j < w'.heap.size)

set_option maxHeartbeats 1000000 in
theorem newReader_c (v : Value) (l : List UInt8) (w : World) (h : Bs w v l) (hl : l.length ≤ 140737488355328) :
    Calls Try.prog 45 #[v] w (NewRd w l) := by
  have H := hide (clone_b v l w h hl)
  clear h
  go_enter Try.func45, Try.ntmps45
  go_wp2_with fail
  refine H.out.mono ?_
  rintro e w1 ⟨v1, rfl, ho, hb⟩
  have HO := hide ho
  have HB := hide hb
  clear ho hb
  obtain ⟨A, c, rfl, _, _⟩ := HO.out.form
  go_wp2_with fail
  go_ret
  have hs := HB.out.size
  refine ⟨w1.heap.size, _, rfl, ⟨_, Blk.new _ _ _, HO.out.bs.alloc _, (fun j hj => hj), ?_⟩, HB.out.alloc hs _, hs, ?_⟩
  · intro e
    have := (HO.out.lt _ e).2
    omega
  · intro j hj
    have := HO.out.lt _ hj
    exact ⟨this.1, by simp; omega⟩
end Go.Proofs.Ytpadgkkeihhneaa
