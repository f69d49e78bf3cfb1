/- A reader's methods: Int, Bool, Left, End, NewReader. -/
import Derived.Test.YtpadgkkeihhneaaGreatC10
import Derived.WalkSpells
import Derived.Test.YtpadgkkeihhneaaGreatC03
namespace Go.Proofs.YtpadgkkeihhneaaGreat
set_option maxRecDepth 100000
set_option linter.unusedSimpArgs false
set_option linter.unusedVariables false
section
open Go.ChangeShapes Go.WideShapes Go.ChangeAt Go.RowKit
theorem rNum_lt (l : List UInt8) (c : Int) : (rNum (l, c)).2 < 2 ^ 64 := by
 unfold rNum
 split
 ·split
  ·rename_i h; exact (parseN_some h).2
  ·simp
 ·simp
theorem rNum_len (l : List UInt8) (c : Int) : (rNum (l, c)).1.1.length ≤ l.length := by
 unfold rNum
 split
 ·split
  ·rename_i h; exact Nat.le_of_lt (parse_len h)
  ·simp [bad]
 ·simp
/-- A box that holds a pointer to the reader. -/
def BoxP (w : World) (q b : Nat) : Prop := w.cell? ⟨q, 0, none⟩ = some (.pointer (some ⟨b, 0, none⟩))
end
section
open Go.ChangeShapes Go.WideShapes Go.ChangeAt Go.RowKit
/-- A box that holds a text. -/
def BoxS (w : World) (s : Nat) (x : ByteArray) : Prop := Blk w s 9 #[.string x]
theorem BoxS.cells {w : World} {s : Nat} {x : ByteArray} (h : BoxS w s x) : w.cell? ⟨s, 0, none⟩ = some (.string x) ∧ w.frozen? ⟨s, 0, none⟩ = false := ⟨Blk.cell h 0, Blk.froz h 0⟩
set_option maxHeartbeats 1000000 in
theorem textC_bad (q s b : Nat) (k : Option Nat) (l : List UInt8) (x : ByteArray) (w : World) (h : Rd w b k l 0) (hl : l.length ≤ 140737488355328) (hp : parseN l = none) (hq : BoxP w q b) (hs : BoxS w s x) (hqb : q ≠ b) (hsb : s ≠ b) (hql : q < w.heap.size) :
 Calls Tryz.prog 113 #[.pointer (some ⟨q, 0, none⟩), .pointer (some ⟨s, 0, none⟩)] w (FnBad [b, s] w b k 11 (fun w' => BoxS w' s x)) := by
 have HN := hide (number_bad b k l 0 w h hl hp)
 have HS := hide hs
 have hq0 := hq
 unfold BoxP at hq
 clear hs h
 go_enter Tryz.func113, Tryz.ntmps113
 go_wp2_with fail
 refine HN.out.mono ?_
 rintro e w1 ⟨rfl, ⟨l', hr, hl'⟩, hg⟩
 have hq1 : w1.cell? ⟨q, 0, none⟩ = some (.pointer (some ⟨b, 0, none⟩)) := (World.cell?_of_block (hg.block q hql (by intro e; injection e with e; exact hqb e))).trans hq
 have HS1 := hide (Blk.grown HS.out hg (by intro e; injection e with e; exact hsb e))
 have HG := hide hg
 have HR := hide hr
 have HL := hide (show l'.length ≤ 140737488355328 by omega)
 clear hg hr hq hl' hq0
 go_wp2_with fail
 refine (take_yes b k l' 0 0 w1 HR.out (Nat.zero_le _) HL.out).mono ?_
 rintro e w2 ⟨v2, rfl, _, _, hr2, hg2⟩
 have HG2 := hide (grown_trans HG.out hg2)
 have HR2 := hide hr2
 have HS2 : Hid (BoxS w2 s x) := hide (Blk.grown HS1.out hg2 (by intro e; injection e with e; exact hsb e))
 clear hg2 hr2
 go_wp2_with fail
 go_ret2
 exact ⟨rfl, ⟨_, HR2.out⟩, (Touch.one HG2.out).mono (by simp), HS2.out⟩
set_option maxHeartbeats 1000000 in
theorem textC_short (q s b : Nat) (k : Option Nat) (l : List UInt8) (x : ByteArray) (w : World) (h : Rd w b k l 0) (hl : l.length ≤ 140737488355328) {n : Nat} {t : List UInt8} (hp : parseN l = some (n, t)) (ht : t.length < n) (hq : BoxP w q b) (hs : BoxS w s x) (hqb : q ≠ b) (hsb : s ≠ b) (hql : q < w.heap.size) :
 Calls Tryz.prog 113 #[.pointer (some ⟨q, 0, none⟩), .pointer (some ⟨s, 0, none⟩)] w (FnBad [b, s] w b k 11 (fun w' => BoxS w' s x)) := by
 have HN := hide (number_got b k l 0 w h hl hp)
 have HS := hide hs
 have HT := hide ht
 have hlt := parse_len hp
 have HL := hide (show t.length ≤ 140737488355328 by omega)
 unfold BoxP at hq
 clear hs h ht hp hlt hl
 go_enter Tryz.func113, Tryz.ntmps113
 go_wp2_with fail
 refine HN.out.mono ?_
 rintro e w1 ⟨rfl, hr, hg⟩
 have hq1 : w1.cell? ⟨q, 0, none⟩ = some (.pointer (some ⟨b, 0, none⟩)) := (World.cell?_of_block (hg.block q hql (by intro e; injection e with e; exact hqb e))).trans hq
 have HS1 : Hid (BoxS w1 s x) := hide (Blk.grown HS.out hg (by intro e; injection e with e; exact hsb e))
 have HG := hide hg
 have HR := hide hr
 clear hg hr hq
 go_wp2_with fail
 refine (take_no b k t 0 n w1 HR.out HT.out HL.out).mono ?_
 rintro e w2 ⟨rfl, rfl⟩
 go_wp2_with fail
 go_ret2
 exact ⟨rfl, ⟨_, HR.out⟩, (Touch.one HG.out).mono (by simp), HS1.out⟩
set_option maxHeartbeats 1000000 in
theorem textC_got (q s b : Nat) (k : Option Nat) (l : List UInt8) (x : ByteArray) (w : World) (h : Rd w b k l 0) (hl : l.length ≤ 140737488355328) {n : Nat} {t : List UInt8} (hp : parseN l = some (n, t)) (ht : n ≤ t.length) (hq : BoxP w q b) (hs : BoxS w s x) (hqb : q ≠ b) (hsb : s ≠ b) (hsk : k ≠ some s) (hql : q < w.heap.size) :
 Calls Tryz.prog 113 #[.pointer (some ⟨q, 0, none⟩), .pointer (some ⟨s, 0, none⟩)] w (FnGot [b, s] w b k 0 (t.drop n) (fun w' => BoxS w' s ⟨(t.take n).toArray⟩)) := by
 have HN := hide (number_got b k l 0 w h hl hp)
 have HS := hide hs
 have HT := hide ht
 have hlt := parse_len hp
 have HL := hide (show t.length ≤ 140737488355328 by omega)
 unfold BoxP at hq
 clear hs h ht hp hlt hl
 go_enter Tryz.func113, Tryz.ntmps113
 go_wp2_with fail
 refine HN.out.mono ?_
 rintro e w1 ⟨rfl, hr, hg⟩
 have hq1 : w1.cell? ⟨q, 0, none⟩ = some (.pointer (some ⟨b, 0, none⟩)) := (World.cell?_of_block (hg.block q hql (by intro e; injection e with e; exact hqb e))).trans hq
 have HS1 : Hid (BoxS w1 s x) := hide (Blk.grown HS.out hg (by intro e; injection e with e; exact hsb e))
 have HG := hide hg
 have HR := hide hr
 clear hg hr hq
 go_wp2_with fail
 refine (take_yes b k t 0 n w1 HR.out HT.out HL.out).mono ?_
 rintro e w2 ⟨v2, rfl, hb2, _, hr2, hg2⟩
 have HG2 := hide (grown_trans HG.out hg2)
 have HR2 := hide hr2
 have HS2 : Hid (BoxS w2 s x) := hide (Blk.grown HS1.out hg2 (by intro e; injection e with e; exact hsb e))
 have hcv := run_string_bs hb2
 obtain ⟨sc, sf⟩ := HS2.out.cells
 clear hg2 hr2 hb2 hq1
 go_wp2_with fail
 go_ret2
 refine ⟨rfl, HR2.out.far (grown_set (grown_refl _ (some s)) 0 _) (by simpa using hsb) (fun j hj e => hsk (by rw [hj]; exact e.symm)), ((Touch.one HG2.out).mono (T := [b, s]) (by simp)).set (by simp) 0 _, Blk.put HS2.out 0 _⟩
set_option maxHeartbeats 2000000 in
theorem rdText_c (b : Nat) (k : Option Nat) (l : List UInt8) (c : Int) (w : World) (h : Rd w b k l c) (hl : l.length ≤ 140737488355328) (hk : ∀ j, k = some j → j < w.heap.size) :
 Calls Tryz.prog 100 #[.pointer (some ⟨b, 0, none⟩)] w (Step1 w b k (rText (l, c)).1 (.string ⟨(rText (l, c)).2.toArray⟩)) := by
 have hblt := h.lt
 have H := hide ((h.alloc (.cells #[.pointer (some ⟨b, 0, none⟩)] 142)).alloc (.cells #[.string ⟨#[]⟩] 9))
 clear h
 obtain ⟨w0, hw0⟩ : ∃ w0, w0 = (w.alloc (.cells #[.pointer (some ⟨b, 0, none⟩)] 142)).alloc (.cells #[.string ⟨#[]⟩] 9) := ⟨_, rfl⟩
 have hq : BoxP w0 w.heap.size b := by rw [hw0]; exact ((Blk.new w _ _).alloc _).cell 0
 have hs : BoxS w0 (w.heap.size + 1) ⟨#[]⟩ := by rw [hw0]; have := Blk.new (w.alloc (.cells #[.pointer (some ⟨b, 0, none⟩)] 142)) 9 #[.string ⟨#[]⟩]; simp only [World.size_alloc] at this; exact this
 have hT : Touch [] w w0 := by rw [hw0]; exact ((Touch.refl [] w).alloc _).alloc _
 have hql : w.heap.size < w0.heap.size := by rw [hw0]; simp; omega
 have hback : ∀ (w1 : World), Touch [b, w.heap.size + 1] w0 w1 → Touch [b] w w1 := fun w1 h1 => (hT.mono (T := [b]) (by simp)).next h1 (by simp)
 rw [← hw0] at H
 have HB := hide hback
 have HW := hide hw0
 clear hback hw0
 by_cases hc : c = 0
 ·subst hc
  have HX : ∀ (HF : Calls Tryz.prog 113 #[.pointer (some ⟨w.heap.size, 0, none⟩), .pointer (some ⟨w.heap.size + 1, 0, none⟩)] w0 (FnBad [b, w.heap.size + 1] w0 b k 11 (fun w' => BoxS w' (w.heap.size + 1) ⟨#[]⟩))),
   Calls Tryz.prog 100 #[.pointer (some ⟨b, 0, none⟩)] w (Step1 w b k (bad 11) (.string ⟨#[]⟩)) := by
   intro HF
   have HF := hide (readText_bad w.heap.size (w.heap.size + 1) [b, w.heap.size + 1] b k l 11 (by decide) (fun w' => BoxS w' (w.heap.size + 1) ⟨#[]⟩) w0 H.out (by simp) HF)
   clear hq hs hT hql
   go_enter Tryz.func100, Tryz.ntmps100
   go_wp2_with fail
   rw [HW.out] at HF HB
   refine HF.out.mono ?_
   rintro e w1 ⟨rfl, h1, h2, wx, hx1, hx2⟩
   have hb1 : BoxS w1 (w.heap.size + 1) ⟨#[]⟩ := Blk.touch hx1 hx2 (by simp; omega)
   obtain ⟨sc, sf⟩ := hb1.cells
   have H1 := hide h1
   have H2 := hide (HB.out _ h2)
   clear h1 h2 hx1 hx2 hb1
   go_wp2_with fail
   go_ret
   exact ⟨rfl, H1.out, H2.out⟩
  cases hp : parseN l with
  | none =>
   have hr : rText (l, 0) = (bad 11, []) := by simp [rText, hp]
   rw [hr]
   exact HX (textC_bad _ _ b k l _ _ H.out hl hp hq hs (by omega) (by omega) hql)
  | some p =>
   obtain ⟨n, t⟩ := p
   by_cases ht : t.length < n
   ·have hr : rText (l, 0) = (bad 11, []) := by simp [rText, hp, ht]
    rw [hr]
    exact HX (textC_short _ _ b k l _ _ H.out hl hp ht hq hs (by omega) (by omega) hql)
   ·have hr : rText (l, 0) = ((t.drop n, 0), t.take n) := by simp [rText, hp, ht]
    rw [hr]
    have HF := hide (readText_got w.heap.size (w.heap.size + 1) [b, w.heap.size + 1] b k l 0 (t.drop n) (fun w' => BoxS w' (w.heap.size + 1) ⟨(t.take n).toArray⟩) w0 H.out (textC_got _ _ b k l _ _ H.out hl hp (by omega) hq hs (by omega) (by omega) (fun e => by have := hk _ e; omega) hql))
    clear hq hs hT hql hr HX ht hp
    generalize (t.take n).toArray = xs at *
    generalize t.drop n = r at *
    go_enter Tryz.func100, Tryz.ntmps100
    go_wp2_with fail
    rw [HW.out] at HF HB
    refine HF.out.mono ?_
    rintro e w1 ⟨rfl, h1, h2, hb1⟩
    obtain ⟨sc, sf⟩ := BoxS.cells hb1
    have H1 := hide h1
    have H2 := hide (HB.out _ h2)
    clear h1 h2 hb1
    go_wp2_with fail
    go_ret
    exact ⟨rfl, H1.out, H2.out⟩
 ·have hr : rText (l, c) = ((l, c), []) := by simp [rText, hc]
  rw [hr]
  have HF := hide (read_stopped b k l c (.func (.func 113) #[] #[.pointer (some ⟨w.heap.size, 0, none⟩), .pointer (some ⟨w.heap.size + 1, 0, none⟩)]) w0 H.out hc)
  have HT := hide hT
  have HSS := hide hs
  clear hq hs hT hql hr hc
  go_enter Tryz.func100, Tryz.ntmps100
  go_wp2_with fail
  rw [HW.out] at HF HB HT H HSS
  refine HF.out.mono ?_
  rintro e w1 ⟨rfl, rfl⟩
  obtain ⟨sc, sf⟩ := HSS.out.cells
  go_wp2_with fail
  go_ret
  exact ⟨rfl, H.out, HT.out.mono (by simp)⟩
end
section
open Go.ChangeShapes Go.WideShapes Go.ChangeAt Go.RowKit
/-- A new reader, which lies in new memory. -/
def NewRd (w : World) (l : List UInt8) (e : Ending) (w' : World) : Prop :=
 ∃ b k, e = .returned (.pointer (some ⟨b, 0, none⟩)) ∧ Rd w' b k l 0 ∧ Below w.heap.size w w' ∧ w.heap.size ≤ b ∧ (∀ j, k = some j → w.heap.size ≤ j ∧ j < w'.heap.size)
set_option maxHeartbeats 1000000 in
theorem newReader_c (v : Value) (l : List UInt8) (w : World) (h : Bs w v l) (hl : l.length ≤ 140737488355328) :
 Calls Tryz.prog 94 #[v] w (NewRd w l) := by
 have H := hide (clone_b v l w h hl)
 clear h
 go_enter Tryz.func94, Tryz.ntmps94
 go_wp2_with fail
 refine H.out.mono ?_
 rintro e w1 ⟨v1, rfl, ho, hb⟩
 have HO := hide ho
 have HB := hide hb
 clear ho hb
 obtain ⟨A, c, rfl, _, _⟩ := HO.out.form
 go_wp2_with fail
 go_ret
 have hs := HB.out.size
 refine ⟨w1.heap.size, _, rfl, ⟨_, Blk.new _ _ _, HO.out.bs.alloc _, (fun j hj => hj), ?_⟩, HB.out.alloc hs _, hs, ?_⟩
 ·intro e
  have := (HO.out.lt _ e).2
  omega
 ·intro j hj
  have := HO.out.lt _ hj
  exact ⟨this.1, by simp; omega⟩
end
end Go.Proofs.YtpadgkkeihhneaaGreat
