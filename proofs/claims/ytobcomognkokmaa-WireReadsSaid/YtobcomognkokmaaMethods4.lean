/- A reader's methods: Count, NewReader. -/
import Derived.Test.YtobcomognkokmaaMethods3
namespace Go.Proofs.Ytobcomognkokmaa
open Go.ChangeShapes Go.WideShapes Go.ChangeAt Go.RowKit
set_option linter.unusedVariables false

/-- A box that holds an integer. -/
def BoxI (w : World) (s : Nat) (x : Int) : Prop := w.cell? ⟨s, 0, none⟩ = some (.int .i64 x)

set_option maxHeartbeats 1000000 in
theorem countC_bad (q s b : Nat) (k : Option Nat) (l : List UInt8) (x : Int) (w : World) (h : Rd w b k l 0) (hl : l.length ≤ 140737488355328) (hp : parseN l = none) (hq : BoxP w q b) :
    Calls Try.prog 37 #[.pointer (some ⟨q, 0, none⟩), .pointer (some ⟨s, 0, none⟩)] w (FnBad [b] w b k 11 (fun _ => True)) := by
  have HN := hide (number_bad b k l 0 w h hl hp)
  unfold BoxP at hq
  clear h
  go_enter Try.func37, Try.ntmps37
  go_wp2_with fail
  refine HN.out.mono ?_
  rintro e w1 ⟨rfl, ⟨l', hr, hl'⟩, hg⟩
  have HG := hide hg
  have HR := hide hr
  clear hg hr hq hl'
  go_wp2_with fail
  go_ret2
  exact ⟨rfl, ⟨_, HR.out⟩, Touch.one HG.out, trivial⟩

set_option maxHeartbeats 1000000 in
theorem countC_large (q s b : Nat) (k : Option Nat) (l : List UInt8) (x : Int) (w : World) (h : Rd w b k l 0) (hl : l.length ≤ 140737488355328) {n : Nat} {t : List UInt8} (hp : parseN l = some (n, t)) (hx : x < (n : Int)) (hx1 : x ≤ 9223372036854775807) (hq : BoxP w q b) (hs : BoxI w s x) (hsb : s ≠ b) (hsl : s < w.heap.size) :
    Calls Try.prog 37 #[.pointer (some ⟨q, 0, none⟩), .pointer (some ⟨s, 0, none⟩)] w (FnBad [b] w b k 8 (fun _ => True)) := by
  have HN := hide (number_got b k l 0 w h hl hp)
  unfold BoxP at hq
  unfold BoxI at hs
  have HP := hide hp
  clear h hl hp
  by_cases h0 : x < 0
  · go_enter Try.func37, Try.ntmps37
    go_wp2_with fail
    refine HN.out.mono ?_
    rintro e w1 ⟨rfl, hr, hg⟩
    have hs1 : w1.cell? ⟨s, 0, none⟩ = some (.int .i64 x) := (World.cell?_of_block (hg.block s hsl (by intro e; injection e with e; exact hsb e))).trans hs
    have HG := hide hg
    have HR := hide hr
    clear hg hr hq hs
    go_wp2_with fail
    go_ret2
    exact ⟨rfl, ⟨_, HR.out⟩, Touch.one HG.out, trivial⟩
  · have h00 : 0 ≤ x := by omega
    clear h0
    go_enter Try.func37, Try.ntmps37
    go_wp2_with fail
    refine HN.out.mono ?_
    rintro e w1 ⟨rfl, hr, hg⟩
    have hs1 : w1.cell? ⟨s, 0, none⟩ = some (.int .i64 x) := (World.cell?_of_block (hg.block s hsl (by intro e; injection e with e; exact hsb e))).trans hs
    have HG := hide hg
    have HR := hide hr
    clear hg hr hq hs
    go_wp2_with fail
    go_ret2
    exact ⟨rfl, ⟨_, HR.out⟩, Touch.one HG.out, trivial⟩

set_option maxHeartbeats 1000000 in
theorem countC_got (q s b : Nat) (k : Option Nat) (l : List UInt8) (x : Int) (w : World) (h : Rd w b k l 0) (hl : l.length ≤ 140737488355328) {n : Nat} {t : List UInt8} (hp : parseN l = some (n, t)) (hx : ¬ x < (n : Int)) (hx1 : x ≤ 9223372036854775807) (hq : BoxP w q b) (hs : BoxI w s x) (hsb : s ≠ b) (hsl : s < w.heap.size) :
    Calls Try.prog 37 #[.pointer (some ⟨q, 0, none⟩), .pointer (some ⟨s, 0, none⟩)] w (FnGot [b] w b k n t (fun _ => True)) := by
  have HN := hide (number_got b k l 0 w h hl hp)
  unfold BoxP at hq
  unfold BoxI at hs
  have HP := hide hp
  clear h hl hp
  have h0 : ¬ x < 0 := by omega
  have h00 : 0 ≤ x := by omega
  go_enter Try.func37, Try.ntmps37
  go_wp2_with fail
  refine HN.out.mono ?_
  rintro e w1 ⟨rfl, hr, hg⟩
  have hs1 : w1.cell? ⟨s, 0, none⟩ = some (.int .i64 x) := (World.cell?_of_block (hg.block s hsl (by intro e; injection e with e; exact hsb e))).trans hs
  have HG := hide hg
  have HR := hide hr
  clear hg hr hq hs
  go_wp2_with fail
  go_ret2
  exact ⟨rfl, HR.out, Touch.one HG.out, trivial⟩

theorem rCount_len (x : Int) (l : List UInt8) (c : Int) : (rCount x (l, c)).1.1.length ≤ l.length := by
  unfold rCount
  split
  · split
    · rename_i h
      have h1 := parse_len h
      split
      · simp [bad]
      · exact Nat.le_of_lt h1
    · simp [bad]
  · simp
theorem rBool_len (l : List UInt8) (c : Int) : (rBool (l, c)).1.1.length ≤ l.length := by
  unfold rBool
  split
  · cases l with
    | nil => simp [bad]
    | cons x t =>
      simp only
      split <;> simp [bad]
  · simp
theorem rInt_len (l : List UInt8) (c : Int) : (rInt (l, c)).1.1.length ≤ l.length := rNum_len l c

set_option maxHeartbeats 2000000 in
theorem rdCount_c (b : Nat) (k : Option Nat) (l : List UInt8) (c x : Int) (hx1 : x ≤ 9223372036854775807) (w : World) (h : Rd w b k l c) (hl : l.length ≤ 140737488355328) (hk : ∀ j, k = some j → j < w.heap.size) :
    Calls Try.prog 21 #[.pointer (some ⟨b, 0, none⟩), .int .i64 x] w (Step1 w b k (rCount x (l, c)).1 (.int .i64 (rCount x (l, c)).2)) := by
  have hblt := h.lt
  have H := hide ((h.alloc (.cells #[.pointer (some ⟨b, 0, none⟩)] 32)).alloc (.cells #[.int .i64 x] 3))
  clear h
  obtain ⟨w0, hw0⟩ : ∃ w0, w0 = (w.alloc (.cells #[.pointer (some ⟨b, 0, none⟩)] 32)).alloc (.cells #[.int .i64 x] 3) := ⟨_, rfl⟩
  have hq : BoxP w0 w.heap.size b := by rw [hw0]; exact ((Blk.new w _ _).alloc _).cell 0
  have hs : BoxI w0 (w.heap.size + 1) x := by rw [hw0]; have := (Blk.new (w.alloc (.cells #[.pointer (some ⟨b, 0, none⟩)] 32)) 3 #[.int .i64 x]).cell 0; simp only [World.size_alloc] at this; exact this
  have hT : Touch [] w w0 := by rw [hw0]; exact ((Touch.refl [] w).alloc _).alloc _
  have hsl : w.heap.size + 1 < w0.heap.size := by rw [hw0]; simp
  have hback : ∀ (w1 : World), Touch [b] w0 w1 → Touch [b] w w1 := fun w1 h1 => (hT.mono (T := [b]) (by simp)).next h1 (by simp)
  rw [← hw0] at H
  have HB := hide hback
  have HW := hide hw0
  clear hback hw0
  by_cases hc : c = 0
  · subst hc
    have HX : ∀ (code : Int) (hcode : code ≠ 0) (HF : Calls Try.prog 37 #[.pointer (some ⟨w.heap.size, 0, none⟩), .pointer (some ⟨w.heap.size + 1, 0, none⟩)] w0 (FnBad [b] w0 b k code (fun _ => True))),
        Calls Try.prog 21 #[.pointer (some ⟨b, 0, none⟩), .int .i64 x] w (Step1 w b k (bad code) (.int .i64 0)) := by
      intro code hcode HF
      have HF := hide (readCount_bad w.heap.size (w.heap.size + 1) [b] b k l code hcode (fun _ => True) w0 H.out (by simp) HF)
      clear hq hs hT hsl hcode
      go_enter Try.func21, Try.ntmps21
      go_wp2_with fail
      rw [HW.out] at HF HB
      refine HF.out.mono ?_
      rintro e w1 ⟨rfl, h1, h2, _⟩
      have H1 := hide h1
      have H2 := hide (HB.out _ h2)
      clear h1 h2
      go_wp2_with fail
      go_ret
      exact ⟨rfl, H1.out, H2.out⟩
    cases hp : parseN l with
    | none =>
      have hr : rCount x (l, 0) = (bad 11, 0) := by simp [rCount, hp]
      rw [hr]
      exact HX 11 (by decide) (countC_bad _ _ b k l x _ H.out hl hp hq)
    | some p =>
      obtain ⟨n, t⟩ := p
      by_cases ht : x < (n : Int)
      · have hr : rCount x (l, 0) = (bad 8, 0) := by simp [rCount, hp, ht]
        rw [hr]
        exact HX 8 (by decide) (countC_large _ _ b k l x _ H.out hl hp ht hx1 hq hs (by omega) hsl)
      · have hr : rCount x (l, 0) = ((t, 0), n) := by simp [rCount, hp, ht]
        rw [hr]
        have hn0 : (n : Int) ≤ 9223372036854775807 := by omega
        have HF := hide (readCount_got w.heap.size (w.heap.size + 1) [b] b k l n t (fun _ => True) w0 H.out (countC_got _ _ b k l x _ H.out hl hp ht hx1 hq hs (by omega) hsl))
        clear hq hs hT hsl hr HX ht hp
        go_enter Try.func21, Try.ntmps21
        go_wp2_with fail
        rw [HW.out] at HF HB
        refine HF.out.mono ?_
        rintro e w1 ⟨rfl, h1, h2, _⟩
        have H1 := hide h1
        have H2 := hide (HB.out _ h2)
        clear h1 h2
        go_wp2_with fail
        go_ret
        exact ⟨rfl, H1.out, H2.out⟩
  · have hr : rCount x (l, c) = ((l, c), 0) := by simp [rCount, hc]
    rw [hr]
    have HF := hide (read_stopped b k l c (.func (.func 37) #[] #[.pointer (some ⟨w.heap.size, 0, none⟩), .pointer (some ⟨w.heap.size + 1, 0, none⟩)]) w0 H.out hc)
    have HT := hide hT
    clear hq hs hT hsl hr hc
    go_enter Try.func21, Try.ntmps21
    go_wp2_with fail
    rw [HW.out] at HF HB HT H
    refine HF.out.mono ?_
    rintro e w1 ⟨rfl, rfl⟩
    go_wp2_with fail
    go_ret
    exact ⟨rfl, H.out, HT.out.mono (by simp)⟩

/-- A new reader, which lies in new memory. -/
def NewRd (w : World) (l : List UInt8) (e : Ending) (w' : World) : Prop :=
  ∃ b k, e = .returned (.pointer (some ⟨b, 0, none⟩)) ∧ Rd w' b k l 0 ∧ Below w.heap.size w w' ∧ w.heap.size ≤ b ∧ (∀ j, k = some j → w.heap.size ≤ j ∧ j < w'.heap.size)

set_option maxHeartbeats 1000000 in
theorem newReader_c (v : Value) (l : List UInt8) (w : World) (h : Bs w v l) (hl : l.length ≤ 140737488355328) :
    Calls Try.prog 20 #[v] w (NewRd w l) := by
  have H := hide (clone_b v l w h hl)
  clear h
  go_enter Try.func20, Try.ntmps20
  go_wp2_with fail
  refine H.out.mono ?_
  rintro e w1 ⟨v1, rfl, ho, hb⟩
  have HO := hide ho
  have HB := hide hb
  clear ho hb
  obtain ⟨A, c, rfl, _, _⟩ := HO.out.form
  go_wp2_with fail
  go_ret
  have hs := HB.out.size
  refine ⟨w1.heap.size, _, rfl, ⟨_, Blk.new _ _ _, HO.out.bs.alloc _, (fun j hj => hj), ?_⟩, HB.out.alloc hs _, hs, ?_⟩
  · intro e
    have := (HO.out.lt _ e).2
    omega
  · intro j hj
    have := HO.out.lt _ hj
    exact ⟨this.1, by simp; omega⟩
end Go.Proofs.Ytobcomognkokmaa
