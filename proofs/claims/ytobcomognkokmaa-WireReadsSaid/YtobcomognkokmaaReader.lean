/- A reader in memory: take, number. -/
import Derived.Test.YtobcomognkokmaaText
import Derived.Test.YtobcomognkokmaaParse
namespace Go.Proofs.Ytobcomognkokmaa
open Go.ChangeShapes Go.WideShapes Go.ChangeAt Go.RowKit
set_option linter.unusedVariables false

/-- Block b is a reader with the bytes l left, in block k if anywhere, and the error c. -/
def Rd (w : World) (b : Nat) (k : Option Nat) (l : List UInt8) (c : Int) : Prop :=
  ∃ v, Blk w b 63 #[v, .int .i64 c] ∧ Bs w v l ∧ (∀ j, v.ownBlock = some j → k = some j) ∧ k ≠ some b

theorem own_take (A : Option Addr) (n m c c' : Nat) : (Value.slice A n c).ownBlock = (Value.slice A m c').ownBlock := by cases A <;> rfl
theorem own_drop (A : Option Addr) (n m c c' k : Nat) (j : Nat) (h : (Value.slice (if c = k then A else A.map (·.add k)) n c').ownBlock = some j) : (Value.slice A m c).ownBlock = some j := by
  cases A with
  | none => split at h <;> cases h
  | some a =>
    split at h
    · exact h
    · simp only [Option.map_some, Value.ownBlock] at h ⊢
      unfold Addr.add at h
      split at h <;> exact h
theorem Rd.far {w w' : World} {b : Nat} {k : Option Nat} {l : List UInt8} {c : Int} {row : Option Nat} (h : Rd w b k l c) (hg : w.grownBy w' row) (h1 : row ≠ some b) (h2 : ∀ j, k = some j → row ≠ some j) : Rd w' b k l c := by
  obtain ⟨v, hB, hbs, hk, hne⟩ := h
  refine ⟨v, hB.grown hg (Ne.symm h1), hbs.grown hg ?_, hk, hne⟩
  cases hv : v.ownBlock with
  | none => exact .inl rfl
  | some j => right; exact fun e => h2 j (hk j hv) e.symm
theorem Rd.step {w w' : World} {b : Nat} {k : Option Nat} {l : List UInt8} {c : Int} (h : Rd w b k l c) (hg : Below w.heap.size w w') : Rd w' b k l c := h.far (grown_of_below hg none) (by simp) (by simp)
theorem Rd.alloc {w : World} {b : Nat} {k : Option Nat} {l : List UInt8} {c : Int} (h : Rd w b k l c) (o : Obj) : Rd (w.alloc o) b k l c := h.far (grown_alloc (grown_refl w none) o) (by simp) (by simp)
theorem Rd.drew {w : World} {b : Nat} {k : Option Nat} {l : List UInt8} {c : Int} (h : Rd w b k l c) : Rd w.drew b k l c := h
theorem Rd.lt {w : World} {b : Nat} {k : Option Nat} {l : List UInt8} {c : Int} (h : Rd w b k l c) : b < w.heap.size := by obtain ⟨v, hB, _⟩ := h; exact hB.lt

/-- What take does where there are enough bytes. -/
def Taken (w : World) (b : Nat) (k : Option Nat) (l : List UInt8) (c : Int) (n : Nat) (e : Ending) (w' : World) : Prop :=
  ∃ v, e = .returned (.tuple #[v, .bool true]) ∧ Bs w' v (l.take n) ∧ (∀ j, v.ownBlock = some j → k = some j) ∧ Rd w' b k (l.drop n) c ∧ w.grownBy w' (some b)

set_option maxHeartbeats 1000000 in
theorem take_yes (b : Nat) (k : Option Nat) (l : List UInt8) (c : Int) (n : Nat) (w : World) (h : Rd w b k l c) (hn : n ≤ l.length) (hl : l.length ≤ 140737488355328) :
    Calls Try.prog 40 #[.pointer (some ⟨b, 0, none⟩), .int .u64 n] w (Taken w b k l c n) := by
  obtain ⟨v, hB, hbs, hk, hne⟩ := h
  obtain ⟨A, cp, rfl, hc, hm⟩ := hbs.form
  have HT := hide (hbs.take hn)
  have HD := hide (hbs.drop hn)
  have HB := hide hB
  have HK : Hid (∀ j, (Value.slice A n cp).ownBlock = some j → k = some j) := hide fun j hj => hk j (by rw [own_take A _ n _ cp]; exact hj)
  have HO : Hid (∀ j, (Value.slice (if cp = n then A else A.map (·.add n)) (l.length - n) (cp - n)).ownBlock = some j → k = some j) := hide fun j hj => hk j (own_drop A _ _ _ _ n j hj)
  have HF : ∀ (v' : Value) (w' : World), w.grownBy w' (some b) → (∀ j, v'.ownBlock = some j → k = some j) → v'.ownBlock = none ∨ v'.ownBlock ≠ some b := by
    intro v' w' _ hj
    cases hv : v'.ownBlock with
    | none => exact .inl rfl
    | some j => right; intro e; injection e with e; exact hne (by rw [hj j hv, e])
  have HF := hide HF
  have c0 := hB.cell 0
  have f0 := hB.froz 0
  simp only [List.getElem?_toArray, List.getElem?_cons_zero] at c0
  have hx : ¬ ((l.length : Int) < (n : Int)) := by omega
  clear hbs hB hk
  generalize l.length = m at *
  by_cases hcn : cp = n
  · obtain rfl : m = n := by omega
    subst hcn
    rw [if_pos rfl, Nat.sub_self] at HD HO
    go_enter Try.func40, Try.ntmps40
    go_wp2_with fail
    go_ret2
    have hg := grown_set (grown_refl w (some b)) 0 (Value.slice A 0 0)
    exact ⟨_, rfl, HT.out.grown hg (HF.out _ _ hg HK.out), HK.out, ⟨_, HB.out.put 0 _, HD.out.grown hg (HF.out _ _ hg HO.out), HO.out, hne⟩, hg⟩
  · rw [if_neg hcn] at HD HO
    go_enter Try.func40, Try.ntmps40
    go_wp2_with fail
    go_ret2
    have hg := grown_set (grown_refl w (some b)) 0 (Value.slice (A.map (·.add n)) (m - n) (cp - n))
    exact ⟨_, rfl, HT.out.grown hg (HF.out _ _ hg HK.out), HK.out, ⟨_, HB.out.put 0 _, HD.out.grown hg (HF.out _ _ hg HO.out), HO.out, hne⟩, hg⟩

set_option maxHeartbeats 1000000 in
theorem take_no (b : Nat) (k : Option Nat) (l : List UInt8) (c : Int) (n : Nat) (w : World) (h : Rd w b k l c) (hn : l.length < n) (hl : l.length ≤ 140737488355328) :
    Calls Try.prog 40 #[.pointer (some ⟨b, 0, none⟩), .int .u64 n] w fun e w' => e = .returned (.tuple #[.slice none 0 0, .bool false]) ∧ w = w' := by
  obtain ⟨v, hB, hbs, hk, hne⟩ := h
  obtain ⟨A, cp, rfl, hc, hm⟩ := hbs.form
  have c0 := hB.cell 0
  simp only [List.getElem?_toArray, List.getElem?_cons_zero] at c0
  have hx : ((l.length : Int) < (n : Int)) := by omega
  clear hbs hB hk
  generalize l.length = m at *
  go_enter Try.func40, Try.ntmps40
  go_wp2_with fail
  go_ret2
  exact ⟨rfl, rfl⟩
theorem takeZ_yes (b : Nat) (k : Option Nat) (l : List UInt8) (c : Int) (n : Nat) (z : Int) (hz : z = (n : Int)) (w : World) (h : Rd w b k l c) (hn : n ≤ l.length) (hl : l.length ≤ 140737488355328) :
    Calls Try.prog 40 #[.pointer (some ⟨b, 0, none⟩), .int .u64 z] w (Taken w b k l c n) := by
  subst hz; exact take_yes b k l c n w h hn hl
theorem takeZ_no (b : Nat) (k : Option Nat) (l : List UInt8) (c : Int) (n : Nat) (z : Int) (hz : z = (n : Int)) (w : World) (h : Rd w b k l c) (hn : l.length < n) (hl : l.length ≤ 140737488355328) :
    Calls Try.prog 40 #[.pointer (some ⟨b, 0, none⟩), .int .u64 z] w fun e w' => e = .returned (.tuple #[.slice none 0 0, .bool false]) ∧ w = w' := by
  subst hz; exact take_no b k l c n w h hn hl
end Go.Proofs.Ytobcomognkokmaa
