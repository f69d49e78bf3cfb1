/- A reader's methods: what each does, as a step of the plain reader. -/
import Derived.Test.YtobcomognkokmaaRdCall
namespace Go.Proofs.Ytobcomognkokmaa
open Go.ChangeShapes Go.WideShapes Go.ChangeAt Go.RowKit
set_option linter.unusedVariables false

/-- A method's call: the reader makes the step, nothing else that lay there has turned. -/
def Step1 (w : World) (b : Nat) (k : Option Nat) (r : RS) (v : Value) (e : Ending) (w' : World) : Prop := e = .returned v ∧ Rd w' b k r.1 r.2 ∧ Touch [b] w w'

/-- Shapes of the bytes at a number. -/
theorem parse_cases (l : List UInt8) :
    (l = [] ∧ parseN l = none) ∨ (∃ x t, l = x :: t ∧ 8 < x.toNat ∧ parseN l = none) ∨ (∃ x t, l = x :: t ∧ x.toNat ≤ 8 ∧ t.length < x.toNat ∧ parseN l = none) ∨
    (∃ x t, l = x :: 0 :: t ∧ x.toNat ≤ 8 ∧ 0 < x.toNat ∧ x.toNat ≤ t.length + 1 ∧ parseN l = none) ∨
    (∃ x t, l = x :: t ∧ x.toNat ≤ 8 ∧ x.toNat ≤ t.length ∧ ¬ (0 < x.toNat ∧ t.headD 1 = 0) ∧ parseN l = some (num (t.take x.toNat), t.drop x.toNat)) := by
  cases l with
  | nil => exact .inl ⟨rfl, rfl⟩
  | cons x t =>
    right
    by_cases h1 : 8 < x.toNat
    · exact .inl ⟨x, t, rfl, h1, by unfold parseN; exact if_pos (.inl h1)⟩
    right
    by_cases h2 : t.length < x.toNat
    · exact .inl ⟨x, t, rfl, by omega, h2, by unfold parseN; exact if_pos (.inr (.inl h2))⟩
    right
    by_cases h3 : 0 < x.toNat ∧ t.headD 1 = 0
    · left
      have hp : parseN (x :: t) = none := by unfold parseN; exact if_pos (.inr (.inr h3))
      obtain ⟨h3, h4⟩ := h3
      cases t with
      | nil => simp at h4
      | cons y t =>
        rw [List.headD_cons] at h4
        subst h4
        exact ⟨x, t, rfl, by omega, h3, by simp at h2; omega, hp⟩
    · right
      refine ⟨x, t, rfl, by omega, by omega, h3, ?_⟩
      unfold parseN
      exact if_neg (fun h => h.elim h1 (fun h => h.elim h2 h3))

theorem number_bad (b : Nat) (k : Option Nat) (l : List UInt8) (c : Int) (w : World) (h : Rd w b k l c) (hl : l.length ≤ 140737488355328) (hp : parseN l = none) :
    Calls Try.prog 38 #[.pointer (some ⟨b, 0, none⟩)] w (NumBad w b k l.length c) := by
  rcases parse_cases l with ⟨rfl, _⟩ | ⟨x, t, rfl, h1, _⟩ | ⟨x, t, rfl, h1, h2, _⟩ | ⟨x, t, rfl, h1, h2, h3, _⟩ | ⟨x, t, rfl, h1, h2, h3, h4⟩
  · exact number_nil b k c w h
  · exact number_high b k x t c w h hl h1
  · exact number_short b k x t c w h hl h1 h2
  · exact number_zero b k x t c w h hl h1 h2 h3
  · rw [h4] at hp; cases hp
theorem number_got (b : Nat) (k : Option Nat) (l : List UInt8) (c : Int) (w : World) (h : Rd w b k l c) (hl : l.length ≤ 140737488355328) {n : Nat} {t : List UInt8} (hp : parseN l = some (n, t)) :
    Calls Try.prog 38 #[.pointer (some ⟨b, 0, none⟩)] w (NumGot w b k n t c) := by
  rcases parse_cases l with ⟨rfl, h4⟩ | ⟨x, t, rfl, h1, h4⟩ | ⟨x, t, rfl, h1, h2, h4⟩ | ⟨x, t, rfl, h1, h2, h3, h4⟩ | ⟨x, t, rfl, h1, h2, h3, h4⟩
  · rw [h4] at hp; cases hp
  · rw [h4] at hp; cases hp
  · rw [h4] at hp; cases hp
  · rw [h4] at hp; cases hp
  · rw [h4] at hp
    injection hp with hp
    injection hp with e1 e2
    subst e1 e2
    exact number_some b k x t c w h hl h1 h2 h3
theorem parse_len {l t : List UInt8} {n : Nat} (h : parseN l = some (n, t)) : t.length < l.length := by
  have := congrArg List.length (parseN_some h).1
  simp [enc] at this
  omega

set_option maxHeartbeats 1000000 in
theorem rdNumber_c (b : Nat) (k : Option Nat) (l : List UInt8) (c : Int) (w : World) (h : Rd w b k l c) (hl : l.length ≤ 140737488355328) :
    Calls Try.prog 23 #[.pointer (some ⟨b, 0, none⟩)] w (Step1 w b k (rNum (l, c)).1 (.int .u64 (rNum (l, c)).2)) := by
  have H := hide h
  by_cases hc : c = 0
  · subst hc
    cases hp : parseN l with
    | none =>
      have hr : rNum (l, 0) = (bad 11, 0) := by simp [rNum, hp]
      rw [hr]
      have HF := hide ((number_bad b k l 0 w h hl hp).mono (R' := FnBad [b] w b k 11 (fun _ => True)) (fun e w' ⟨h1, ⟨l', h2, _⟩, h3⟩ => ⟨h1, ⟨l', h2⟩, Touch.one h3, trivial⟩))
      clear h hp hr
      go_enter Try.func23, Try.ntmps23
      go_wp2_with fail
      refine (readNumber_bad [b] b k l 11 (by decide) (fun _ => True) w H.out (by simp) HF.out).mono ?_
      rintro e w1 ⟨rfl, h1, h2, _⟩
      go_wp2_with fail
      go_ret
      exact ⟨rfl, h1, h2⟩
    | some p =>
      obtain ⟨n, t⟩ := p
      have hr : rNum (l, 0) = ((t, 0), n) := by simp [rNum, hp]
      rw [hr]
      have HF := hide ((number_got b k l 0 w h hl hp).mono (R' := FnGot [b] w b k n t (fun _ => True)) (fun e w' ⟨h1, h2, h3⟩ => ⟨h1, h2, Touch.one h3, trivial⟩))
      clear h hp hr
      go_enter Try.func23, Try.ntmps23
      go_wp2_with fail
      refine (readNumber_got [b] b k l n t (fun _ => True) w H.out HF.out).mono ?_
      rintro e w1 ⟨rfl, h1, h2, _⟩
      go_wp2_with fail
      go_ret
      exact ⟨rfl, h1, h2⟩
  · have hr : rNum (l, c) = ((l, c), 0) := by simp [rNum, hc]
    rw [hr]
    clear h hr
    have HC := hide hc
    clear hc
    go_enter Try.func23, Try.ntmps23
    go_wp2_with fail
    refine (read_stopped b k l c _ w H.out HC.out).mono ?_
    rintro e w1 ⟨rfl, rfl⟩
    go_wp2_with fail
    go_ret
    exact ⟨rfl, H.out, Touch.refl _ _⟩
end Go.Proofs.Ytobcomognkokmaa
