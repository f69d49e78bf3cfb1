/- (part).bytes. -/
import Derived.Test.YtpadgkkeihhneaaGreatC07
import Derived.Test.YtpadgkkeihhneaaGreatC08
namespace Go.Proofs.YtpadgkkeihhneaaGreat
set_option maxRecDepth 100000
set_option linter.unusedSimpArgs false
set_option linter.unusedVariables false
open Go.ChangeShapes Go.WideShapes Go.ChangeAt Go.RowKit
/-- A part as a value. -/
def pv (x : Prt) : Value := .agg #[.int .i64 x.turn, .int .i64 x.index, .int .i64 x.p, .int .i64 x.q, sv x.text]
def encN (l : List Nat) : List UInt8 := (l.map enc).flatten
theorem encN_snoc (l : List Nat) (n : Nat) : encN (l ++ [n]) = encN l ++ enc n := by simp [encN]
def nums (x : Prt) : List Nat := [x.turn, x.index, x.p, x.q]
theorem prtBytes_nums (x : Prt) : prtBytes x = encN (nums x) ++ encL x.text := by simp [prtBytes, encN, nums]
theorem nums_take (x : Prt) (k : Nat) (h : k < 4) : (nums x).take (k + 1) = (nums x).take k ++ [(nums x).getD k 0] := by
 rcases (show k = 0 ∨ k = 1 ∨ k = 2 ∨ k = 3 by omega) with rfl | rfl | rfl | rfl <;> rfl
theorem nums_lt (x : Prt) (h : x.Small) (k : Nat) : (nums x).getD k 0 < 2 ^ 63 := by
 obtain ⟨h1, h2, h3, h4, h5⟩ := h
 match k with
 | 0 => show x.turn < _; omega
 | 1 => show x.index < _; omega
 | 2 => show x.p < _; omega
 | 3 => show x.q < _; omega
 | k + 4 => show (0 : Nat) < _; omega
theorem encN_len (x : Prt) (h : x.Small) (k : Nat) : (encN ((nums x).take k)).length ≤ 118 := by
 have := prtBytes_len x h
 rw [prtBytes_nums, List.length_append] at this
 have h2 : encN (nums x) = encN ((nums x).take k) ++ encN ((nums x).drop k) := by
  unfold encN; rw [← List.flatten_append, ← List.map_append, List.take_append_drop]
 rw [h2, List.length_append] at this
 omega
/-- Integers as cells. -/
def intCells (l : List Nat) : List Value := l.map fun n : Nat => Value.int .i64 (n : Int)
def NumL (x : Prt) (w : World) (bp bi : Nat) (v : Value) (k : Nat) (W : World) : Prop :=
 Own w [] [(bp, 126, [.int .i64 x.turn, .int .i64 x.index, .int .i64 x.p, .int .i64 x.q, sv x.text]), (bi, 3, intCells (nums x))] W ∧ Ow W (bi + 1) v (encN ((nums x).take k))
theorem intCells_at (l : List Nat) (k : Nat) (h : k < l.length) : (intCells l)[k]? = some (.int .i64 (l.getD k 0 : Nat)) := by
 unfold intCells
 rw [List.getElem?_map, List.getElem?_eq_getElem h]
 simp [List.getD, h]
theorem Fresh.then {w w1 w2 : World} {l : List UInt8} {e : Ending} (h : Fresh w1 l e w2) (hb : Below w.heap.size w w1) : Fresh w l e w2 := by
 obtain ⟨v, he, ho, hb2⟩ := h
 exact ⟨v, he, ho.mono hb.size, hb.trans (hb2.mono hb.size)⟩
set_option maxHeartbeats 1000000 in
theorem bytes_c (x : Prt) (hx : x.Small) (w : World) : Calls Tryz.prog 90 #[pv x] w (Fresh w (prtPage x)) := by
 have HX := hide hx
 unfold pv
 clear hx
 have HO := hide (Own.nil w [] (by simp))
 go_enter Tryz.func90, Tryz.ntmps90
 go_wp2_with fail
 replace HO := hide (HO.out.push (Blk.new w 126 #[.int .i64 x.turn, .int .i64 x.index, .int .i64 x.p, .int .i64 x.q, sv x.text]) ((Below.refl _ _).alloc (Nat.le_refl _) _))
 replace HO := hide (HO.out.push (Blk.new _ 3 #[.int .i64 x.turn, .int .i64 x.index, .int .i64 x.p, .int .i64 x.q]) ((Below.refl _ _).alloc (Nat.le_refl _) _))
 have HSZ := hide (World.size_alloc (w := w) (.cells #[.int .i64 x.turn, .int .i64 x.index, .int .i64 x.p, .int .i64 x.q, sv x.text] 126))
 have HSW := hide (World.size_alloc (w := (w.alloc (.cells #[.int .i64 x.turn, .int .i64 x.index, .int .i64 x.p, .int .i64 x.q, sv x.text] 126))) (.cells #[.int .i64 x.turn, .int .i64 x.index, .int .i64 x.p, .int .i64 x.q] 3))
 generalize ((w.alloc (.cells #[.int .i64 x.turn, .int .i64 x.index, .int .i64 x.p, .int .i64 x.q, sv x.text] 126)).alloc (.cells #[.int .i64 x.turn, .int .i64 x.index, .int .i64 x.p, .int .i64 x.q] 3)) = wB at *
 rw [HSZ.out] at HO HSW
 obtain ⟨bp, hbp⟩ : ∃ bp, w.heap.size = bp := ⟨_, rfl⟩
 have HBP := hide hbp
 rw [hbp] at HO HSW ⊢
 clear hbp HSZ
 obtain ⟨bi, hbi⟩ : ∃ bi, bp + 1 = bi := ⟨_, rfl⟩
 have HBI := hide hbi
 rw [hbi] at HO HSW ⊢
 clear hbi
 go_loopw [3, 16] (fun v i wr => ∃ k : Nat, k ≤ 4 ∧ i = .int .i64 k ∧ NumL x w bp bi v k wr) (fun _ i _ => 4 - (intOf i).toNat)
 case atStart => exact ⟨0, Nat.zero_le _, rfl, HO.out, Ow.nil _ _⟩
 case round =>
  clear HO HSW
  obtain ⟨k, hk, rfl, ho, hw⟩ := hrel
  have HO := hide ho
  have HW := hide hw
  clear ho hw
  obtain ⟨A, m, c, rfl, hm, hmc, hc⟩ := HW.out.formN
  have HLT : Hid (∀ j, (Value.slice A m c).ownBlock = some j → bi + 1 ≤ j ∧ j < wr.heap.size) := hide HW.out.lt
  have HBW : Hid (bi + 1 ≤ wr.heap.size) := hide (HO.out.blk 1 rfl).lt
  by_cases hlt : k < 4
  ·have kc := (HO.out.cells 1 rfl k).trans (intCells_at _ k hlt)
   have hn := nums_lt x HX.out k
   have HS := hide (nums_take x k hlt)
   generalize (nums x).getD k 0 = n at *
   have hz : (n : Int) ≤ 9223372036854775807 := by omega
   go_wp2_with fail
   refine (appendNumber_c (bi + 1) _ _ n (by omega) wr HW.out (by have := encN_len x HX.out k; omega) HBW.out).mono ?_
   rintro e w4 ⟨v4, rfl, ho4, _, hg4, hw4⟩
   have HO4 := hide ho4
   replace HO := hide (HO.out.away (Touch.grown hg4) (fun s hs => .inr (by
    have h1 : (Value.slice A m c).ownBlock = some s := by simpa using hs
    have h2 := HLT.out s h1
    have h3 := HBI.out
    have h4 := HBP.out
    refine ⟨by omega, by simp; omega⟩)))
   clear ho4 hg4 hw4
   go_wp2_with fail
   go_roundw
   case rel => exact ⟨k + 1, by omega, by go_num, HO.out, by rw [HS.out, encN_snoc]; exact HO4.out⟩
   case measure => simp [intOf]; omega
  ·obtain rfl : k = 4 := by omega
   have kt := HO.out.cells 0 rfl 4
   go_wp2_with fail
   refine (appendText_c (bi + 1) _ _ _ wr HW.out (by have := encN_len x HX.out 4; omega) (by have := HX.out.text; show x.text.length ≤ _; omega) HBW.out).mono ?_
   rintro e w4 ⟨v4, rfl, ho4, _, hg4, hw4⟩
   have HO4 := hide ho4
   replace HO := hide (HO.out.away (Touch.grown hg4) (fun s hs => .inr (by
    have h1 : (Value.slice A m c).ownBlock = some s := by simpa using hs
    have h2 := HLT.out s h1
    have h3 := HBI.out
    have h4 := HBP.out
    refine ⟨by omega, by simp; omega⟩)))
   clear ho4 hg4 hw4
   obtain ⟨A4, m4, c4, rfl, _, _, _⟩ := HO4.out.formN
   go_wp2_with fail
   have HE : Hid (encN ((nums x).take 4) ++ encT ⟨x.text.toArray⟩ = prtBytes x) := by
    unfold Hid
    rw [prtBytes_nums, encT_list]; rfl
   refine (page_c _ (prtBytes x) (by have := prtBytes_len x HX.out; omega) w4 (by rw [← HE.out]; exact HO4.out.bs)).mono ?_
   rintro e w5 hf
   obtain ⟨v5, rfl, ho5, hb5⟩ := hf.then HO.out.below
   have HO5 := hide ho5
   have HB5 := hide hb5
   clear ho5 hb5 hf
   go_wp2_with fail
   go_ret
   exact ⟨v5, rfl, HO5.out, HB5.out⟩
end Go.Proofs.YtpadgkkeihhneaaGreat
