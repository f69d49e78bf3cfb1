/- A reader's methods. -/
import Derived.Test.YtobcomognkokmaaRdNum
import Derived.Test.YtobcomognkokmaaTouch
namespace Go.Proofs.Ytobcomognkokmaa
open Go.ChangeShapes Go.WideShapes Go.ChangeAt Go.RowKit
set_option linter.unusedVariables false

theorem Rd.touch {S : List Nat} {w w' : World} {b : Nat} {k : Option Nat} {l : List UInt8} {c : Int} (h : Rd w b k l c) (hg : Touch S w w') (h1 : b ∉ S) (h2 : ∀ j, k = some j → j ∉ S) : Rd w' b k l c := by
  obtain ⟨v, hB, hbs, hk, hne⟩ := h
  exact ⟨v, hB.touch hg h1, hbs.touch hg (fun j hj => h2 j (hk j hj)), hk, hne⟩
/-- The reader's error is set. -/
theorem Rd.fail {w : World} {b : Nat} {k : Option Nat} {l : List UInt8} {c : Int} (h : Rd w b k l c) (e : Int) : Rd ((w.setCell ⟨b, 1, none⟩ (.int .i64 e)).setCell ⟨b, 0, none⟩ (.slice none 0 0)) b k [] e := by
  obtain ⟨v, hB, hbs, hk, hne⟩ := h
  refine ⟨.slice none 0 0, ?_, Bs.nil _, (fun j hj => by cases hj), hne⟩
  exact (hB.put 1 (.int .i64 e)).put 0 _
theorem Rd.cells {w : World} {b : Nat} {k : Option Nat} {l : List UInt8} {c : Int} (h : Rd w b k l c) : ∃ v, w.cell? ⟨b, 0, none⟩ = some v ∧ w.cell? ⟨b, 1, none⟩ = some (.int .i64 c) ∧ w.frozen? ⟨b, 0, none⟩ = false ∧ w.frozen? ⟨b, 1, none⟩ = false ∧ Bs w v l := by
  obtain ⟨v, hB, hbs, hk, hne⟩ := h
  exact ⟨v, hB.cell 0, hB.cell 1, hB.froz 0, hB.froz 1, hbs⟩

/-- A function that read is handed has found a number. -/
def FnGot (S : List Nat) (w : World) (b : Nat) (k : Option Nat) (n : Nat) (t : List UInt8) (E : World → Prop) (e : Ending) (w' : World) : Prop :=
  e = .returned (.tuple #[.int .u64 n, .int .i64 0]) ∧ Rd w' b k t 0 ∧ Touch S w w' ∧ E w'
def FnBad (S : List Nat) (w : World) (b : Nat) (k : Option Nat) (code : Int) (E : World → Prop) (e : Ending) (w' : World) : Prop :=
  e = .returned (.tuple #[.int .u64 0, .int .i64 code]) ∧ (∃ l', Rd w' b k l' 0) ∧ Touch S w w' ∧ E w'
/-- What read does then. -/
def ReadGot (S : List Nat) (w : World) (b : Nat) (k : Option Nat) (n : Nat) (t : List UInt8) (E : World → Prop) (e : Ending) (w' : World) : Prop :=
  e = .returned (.int .u64 n) ∧ Rd w' b k t 0 ∧ Touch S w w' ∧ E w'
def ReadBad (S : List Nat) (w : World) (b : Nat) (k : Option Nat) (code : Int) (E : World → Prop) (e : Ending) (w' : World) : Prop :=
  e = .returned (.int .u64 0) ∧ Rd w' b k [] code ∧ Touch S w w' ∧ ∃ w1, E w1 ∧ Touch [b] w1 w'

set_option maxHeartbeats 1000000 in
theorem read_stopped (b : Nat) (k : Option Nat) (l : List UInt8) (c : Int) (fv : Value) (w : World) (h : Rd w b k l c) (hc : c ≠ 0) :
    Calls Try.prog 36 #[.pointer (some ⟨b, 0, none⟩), fv] w fun e w' => e = .returned (.int .u64 0) ∧ w = w' := by
  obtain ⟨v, c0, c1, f0, f1, _⟩ := h.cells
  have hcb : (c == 0) = false := by simpa using hc
  clear h hc
  go_enter Try.func36, Try.ntmps36
  go_wp2_with fail
  go_ret
  exact ⟨rfl, rfl⟩

set_option maxHeartbeats 1000000 in
theorem readNumber_got (S : List Nat) (b : Nat) (k : Option Nat) (l : List UInt8) (n : Nat) (t : List UInt8) (E : World → Prop) (w : World) (h : Rd w b k l 0)
    (hf : Calls Try.prog 38 #[.pointer (some ⟨b, 0, none⟩)] w (FnGot S w b k n t E)) :
    Calls Try.prog 36 #[.pointer (some ⟨b, 0, none⟩), .func (.func 38) #[.pointer (some ⟨b, 0, none⟩)] #[]] w (ReadGot S w b k n t E) := by
  obtain ⟨v, c0, c1, f0, f1, _⟩ := h.cells
  have HF := hide hf
  clear h hf
  go_enter Try.func36, Try.ntmps36
  go_wp2_with fail
  refine HF.out.mono ?_
  rintro e w1 ⟨rfl, h1, h2, h3⟩
  go_wp2_with fail
  go_ret
  exact ⟨rfl, h1, h2, h3⟩

set_option maxHeartbeats 1000000 in
theorem readNumber_bad (S : List Nat) (b : Nat) (k : Option Nat) (l : List UInt8) (code : Int) (hcode : code ≠ 0) (E : World → Prop) (w : World) (h : Rd w b k l 0) (hb : b ∈ S)
    (hf : Calls Try.prog 38 #[.pointer (some ⟨b, 0, none⟩)] w (FnBad S w b k code E)) :
    Calls Try.prog 36 #[.pointer (some ⟨b, 0, none⟩), .func (.func 38) #[.pointer (some ⟨b, 0, none⟩)] #[]] w (ReadBad S w b k code E) := by
  obtain ⟨v, c0, c1, f0, f1, _⟩ := h.cells
  have HF := hide hf
  have hcb : (code == 0) = false := by simpa using hcode
  clear h hf hcode
  go_enter Try.func36, Try.ntmps36
  go_wp2_with fail
  refine HF.out.mono ?_
  rintro e w1 ⟨rfl, ⟨l', h1⟩, h2, h3⟩
  clear c0 c1 f0 f1
  obtain ⟨v1, c0, c1, f0, f1, _⟩ := h1.cells
  have H1 := hide h1
  have H2 := hide h2
  clear h1 h2
  go_wp2_with fail
  go_ret
  exact ⟨rfl, H1.out.fail code, (H2.out.set (.inl hb) 1 _).set (.inl hb) 0 _, w1, h3, ((Touch.refl [b] w1).set (by simp) 1 _).set (by simp) 0 _⟩

set_option maxHeartbeats 1000000 in
theorem readBool_got (q : Nat) (S : List Nat) (b : Nat) (k : Option Nat) (l : List UInt8) (n : Nat) (t : List UInt8) (E : World → Prop) (w : World) (h : Rd w b k l 0)
    (hf : Calls Try.prog 41 #[.pointer (some ⟨q, 0, none⟩)] w (FnGot S w b k n t E)) :
    Calls Try.prog 36 #[.pointer (some ⟨b, 0, none⟩), .func (.func 41) #[] #[.pointer (some ⟨q, 0, none⟩)]] w (ReadGot S w b k n t E) := by
  obtain ⟨v, c0, c1, f0, f1, _⟩ := h.cells
  have HF := hide hf
  clear h hf
  go_enter Try.func36, Try.ntmps36
  go_wp2_with fail
  refine HF.out.mono ?_
  rintro e w1 ⟨rfl, h1, h2, h3⟩
  go_wp2_with fail
  go_ret
  exact ⟨rfl, h1, h2, h3⟩

set_option maxHeartbeats 1000000 in
theorem readBool_bad (q : Nat) (S : List Nat) (b : Nat) (k : Option Nat) (l : List UInt8) (code : Int) (hcode : code ≠ 0) (E : World → Prop) (w : World) (h : Rd w b k l 0) (hb : b ∈ S)
    (hf : Calls Try.prog 41 #[.pointer (some ⟨q, 0, none⟩)] w (FnBad S w b k code E)) :
    Calls Try.prog 36 #[.pointer (some ⟨b, 0, none⟩), .func (.func 41) #[] #[.pointer (some ⟨q, 0, none⟩)]] w (ReadBad S w b k code E) := by
  obtain ⟨v, c0, c1, f0, f1, _⟩ := h.cells
  have HF := hide hf
  have hcb : (code == 0) = false := by simpa using hcode
  clear h hf hcode
  go_enter Try.func36, Try.ntmps36
  go_wp2_with fail
  refine HF.out.mono ?_
  rintro e w1 ⟨rfl, ⟨l', h1⟩, h2, h3⟩
  clear c0 c1 f0 f1
  obtain ⟨v1, c0, c1, f0, f1, _⟩ := h1.cells
  have H1 := hide h1
  have H2 := hide h2
  clear h1 h2
  go_wp2_with fail
  go_ret
  exact ⟨rfl, H1.out.fail code, (H2.out.set (.inl hb) 1 _).set (.inl hb) 0 _, w1, h3, ((Touch.refl [b] w1).set (by simp) 1 _).set (by simp) 0 _⟩

set_option maxHeartbeats 1000000 in
theorem readText_got (q s : Nat) (S : List Nat) (b : Nat) (k : Option Nat) (l : List UInt8) (n : Nat) (t : List UInt8) (E : World → Prop) (w : World) (h : Rd w b k l 0)
    (hf : Calls Try.prog 39 #[.pointer (some ⟨q, 0, none⟩), .pointer (some ⟨s, 0, none⟩)] w (FnGot S w b k n t E)) :
    Calls Try.prog 36 #[.pointer (some ⟨b, 0, none⟩), .func (.func 39) #[] #[.pointer (some ⟨q, 0, none⟩), .pointer (some ⟨s, 0, none⟩)]] w (ReadGot S w b k n t E) := by
  obtain ⟨v, c0, c1, f0, f1, _⟩ := h.cells
  have HF := hide hf
  clear h hf
  go_enter Try.func36, Try.ntmps36
  go_wp2_with fail
  refine HF.out.mono ?_
  rintro e w1 ⟨rfl, h1, h2, h3⟩
  go_wp2_with fail
  go_ret
  exact ⟨rfl, h1, h2, h3⟩

set_option maxHeartbeats 1000000 in
theorem readText_bad (q s : Nat) (S : List Nat) (b : Nat) (k : Option Nat) (l : List UInt8) (code : Int) (hcode : code ≠ 0) (E : World → Prop) (w : World) (h : Rd w b k l 0) (hb : b ∈ S)
    (hf : Calls Try.prog 39 #[.pointer (some ⟨q, 0, none⟩), .pointer (some ⟨s, 0, none⟩)] w (FnBad S w b k code E)) :
    Calls Try.prog 36 #[.pointer (some ⟨b, 0, none⟩), .func (.func 39) #[] #[.pointer (some ⟨q, 0, none⟩), .pointer (some ⟨s, 0, none⟩)]] w (ReadBad S w b k code E) := by
  obtain ⟨v, c0, c1, f0, f1, _⟩ := h.cells
  have HF := hide hf
  have hcb : (code == 0) = false := by simpa using hcode
  clear h hf hcode
  go_enter Try.func36, Try.ntmps36
  go_wp2_with fail
  refine HF.out.mono ?_
  rintro e w1 ⟨rfl, ⟨l', h1⟩, h2, h3⟩
  clear c0 c1 f0 f1
  obtain ⟨v1, c0, c1, f0, f1, _⟩ := h1.cells
  have H1 := hide h1
  have H2 := hide h2
  clear h1 h2
  go_wp2_with fail
  go_ret
  exact ⟨rfl, H1.out.fail code, (H2.out.set (.inl hb) 1 _).set (.inl hb) 0 _, w1, h3, ((Touch.refl [b] w1).set (by simp) 1 _).set (by simp) 0 _⟩

set_option maxHeartbeats 1000000 in
theorem readCount_got (q s : Nat) (S : List Nat) (b : Nat) (k : Option Nat) (l : List UInt8) (n : Nat) (t : List UInt8) (E : World → Prop) (w : World) (h : Rd w b k l 0)
    (hf : Calls Try.prog 37 #[.pointer (some ⟨q, 0, none⟩), .pointer (some ⟨s, 0, none⟩)] w (FnGot S w b k n t E)) :
    Calls Try.prog 36 #[.pointer (some ⟨b, 0, none⟩), .func (.func 37) #[] #[.pointer (some ⟨q, 0, none⟩), .pointer (some ⟨s, 0, none⟩)]] w (ReadGot S w b k n t E) := by
  obtain ⟨v, c0, c1, f0, f1, _⟩ := h.cells
  have HF := hide hf
  clear h hf
  go_enter Try.func36, Try.ntmps36
  go_wp2_with fail
  refine HF.out.mono ?_
  rintro e w1 ⟨rfl, h1, h2, h3⟩
  go_wp2_with fail
  go_ret
  exact ⟨rfl, h1, h2, h3⟩

set_option maxHeartbeats 1000000 in
theorem readCount_bad (q s : Nat) (S : List Nat) (b : Nat) (k : Option Nat) (l : List UInt8) (code : Int) (hcode : code ≠ 0) (E : World → Prop) (w : World) (h : Rd w b k l 0) (hb : b ∈ S)
    (hf : Calls Try.prog 37 #[.pointer (some ⟨q, 0, none⟩), .pointer (some ⟨s, 0, none⟩)] w (FnBad S w b k code E)) :
    Calls Try.prog 36 #[.pointer (some ⟨b, 0, none⟩), .func (.func 37) #[] #[.pointer (some ⟨q, 0, none⟩), .pointer (some ⟨s, 0, none⟩)]] w (ReadBad S w b k code E) := by
  obtain ⟨v, c0, c1, f0, f1, _⟩ := h.cells
  have HF := hide hf
  have hcb : (code == 0) = false := by simpa using hcode
  clear h hf hcode
  go_enter Try.func36, Try.ntmps36
  go_wp2_with fail
  refine HF.out.mono ?_
  rintro e w1 ⟨rfl, ⟨l', h1⟩, h2, h3⟩
  clear c0 c1 f0 f1
  obtain ⟨v1, c0, c1, f0, f1, _⟩ := h1.cells
  have H1 := hide h1
  have H2 := hide h2
  clear h1 h2
  go_wp2_with fail
  go_ret
  exact ⟨rfl, H1.out.fail code, (H2.out.set (.inl hb) 1 _).set (.inl hb) 0 _, w1, h3, ((Touch.refl [b] w1).set (by simp) 1 _).set (by simp) 0 _⟩
end Go.Proofs.Ytobcomognkokmaa
