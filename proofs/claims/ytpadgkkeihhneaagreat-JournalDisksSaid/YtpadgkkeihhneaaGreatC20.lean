/- The reference of package checksum, function by function: Seal, Open. -/
import Derived.Test.YtpadgkkeihhneaaGreatC03
import Derived.BigQuiet
import Derived.Test.YtpadgkkeihhneaaGreatC02
import Derived.Deep.QuietTactic
import Derived.Test.YtpadgkkeihhneaaGreatC01
import Derived.WalkSpells
import Derived.Test.YtpadgkkeihhneaaGreatC11
namespace Go.Proofs.YtpadgkkeihhneaaGreat
set_option maxRecDepth 100000
set_option linter.unusedSimpArgs false
set_option linter.unusedVariables false
section
open Go.ChangeShapes Go.WideShapes Go.ChangeAt Go.RowKit
set_option maxHeartbeats 1000000 in
theorem refSeal_c (v : Value) (l : List UInt8) (w : World) (h : Bs w v l) (hl : l.length ≤ 70368744177664) : Calls Tryz.prog 93 #[v] w (Fresh w (seal_ l)) := by
 have H := hide h
 have HL1 : Hid (0 + l.length ≤ 140737488355328) := by unfold Hid; omega
 have HL2 : Hid (l.length + (le4 (upd 0#32 l)).length ≤ 140737488355328) := by unfold Hid; simp [le4]; omega
 clear h hl
 go_enter Tryz.func93, Tryz.ntmps93
 go_wp2_with fail
 refine (refSum_c _ l _ H.out).mono ?_
 rintro e w1 ⟨rfl, rfl⟩
 have HC := hide (le4_cells (upd 0#32 l))
 have tok0 : True := trivial
 go_wp2_with (first
  | (at_builtin; have _t := tok0; clear _t; refine wpList_append_bs rfl _ _ rfl w.heap.size (l := []) (m := l) rfl (Ow.made [] #[] rfl (Nat.le_refl _) (by simp)) rfl (H.out.alloc _) HL1.out (by simp) ?_; intro v1 w1 how hg hw; clear hw tok0; have HB := hide (below_grown ((Below.refl w.heap.size w).alloc (Nat.le_refl _) _) hg (by simp) (Nat.le_refl _)); have HO := hide how; clear how hg)
  | (at_builtin; refine wpList_append_bs rfl _ _ rfl w.heap.size rfl (HO.out.alloc _) rfl (Ow.made _ _ HC.out (Nat.le_refl _) (by simp [le4, maxLen])).bs HL2.out (by have := HB.out.size; simp; omega) ?_; intro v1 w3 how hg hw))
 go_ret
 exact ⟨_, rfl, how, below_append (HB.out.alloc HB.out.size _) (HO.out.alloc _) hg (by have := HB.out.size; simp; omega) (Nat.le_refl _)⟩
end
section
open Go.ChangeShapes Go.WideShapes Go.ChangeAt Go.RowKit
theorem own_new {v : Value} {B : Nat} {n c : Nat} (h : ∀ k, v.ownBlock = some k → k < B) : v.ownBlock = none ∨ v.ownBlock ≠ (Value.slice (some ⟨B, 0, none⟩) n c).ownBlock := by
 cases hv : v.ownBlock with
 | none => exact .inl rfl
 | some k => right; intro e; injection e with e; have := h k hv; have e' : k = B := e; omega
theorem own_from {v' : Value} {B C : Nat} {b n c : Nat} (h : v'.ownBlock = (Value.slice (some ⟨b, 0, none⟩) n c).ownBlock ∨ v'.ownBlock = some C) (hb : B ≤ b) (hc : B ≤ C) : ∀ k, v'.ownBlock = some k → B ≤ k := by
 intro k hk
 rcases h with h | h <;> rw [h] at hk <;> injection hk with hk
 ·have e : b = k := hk; omega
 ·omega
theorem own_apart {v u : Value} {B : Nat} (h : ∀ k, v.ownBlock = some k → k < B) (hu : ∀ k, u.ownBlock = some k → B ≤ k) : v.ownBlock = none ∨ v.ownBlock ≠ u.ownBlock := by
 cases hv : v.ownBlock with
 | none => exact .inl rfl
 | some k => right; intro e; have := h k hv; have := hu k e.symm; omega
/-- What the loop over a number's digits keeps. -/
def DigR (w : World) (n : Nat) (v vi : Value) (wr : World) : Prop :=
 ∃ j : Nat, j ≤ blen n ∧ vi = .int .u64 (n / 256 ^ j : Nat) ∧ Ow wr w.heap.size v (dig j n) ∧ Below w.heap.size w wr
theorem u8_mod (n : Nat) : (#[.int .u8 ((n : Int) % 256)] : Array Value).toList = [UInt8.ofNat (n % 256)].map bv := by
 simp only [List.map_cons, List.map_nil, bv, u8]
 rw [UInt8.toNat_ofNat', Nat.mod_eq_of_lt (show n % 256 < 2 ^ 8 by omega)]
 simp
set_option maxHeartbeats 2000000 in
theorem refNumber_c (v : Value) (l : List UInt8) (n : Nat) (hn : n < 2 ^ 64) (w : World) (h : Bs w v l) (hl : l.length ≤ 70368744177664) :
 Calls Tryz.prog 74 #[v, .int .u64 n] w (Fresh w (l ++ enc n)) := by
 have h8 := blen_le 8 n (by omega)
 have H8 := hide h8
 obtain ⟨A, c, rfl, _, _⟩ := h.form
 have H := hide h
 have HL := hide hl
 have HLL : Hid (∃ ln, ln = l.length ∧ ln ≤ 70368744177664) := ⟨_, rfl, hl⟩
 clear h hl h8
 generalize hln : l.length = ln at *
 have HLN := hide hln
 clear hln
 go_enter Tryz.func74, Tryz.ntmps74
 go_wp2_with fail
 have HS := hide (show DigR w n (.slice (some ⟨w.heap.size, 0, none⟩) 0 0) (.int .u64 n) (w.alloc (.cells #[] 5)) from
  ⟨0, Nat.zero_le _, by simp, Ow.made (base := w.heap.size) [] #[] rfl (Nat.le_refl _) (by simp), (Below.refl _ _).alloc (Nat.le_refl _) _⟩)
 go_loopw [5, 6] (fun v i wr => DigR w n v i wr) (fun _ i _ => (intOf i).toNat)
 case atStart => exact HS.out
 case round =>
  clear HS
  obtain ⟨j, hj, rfl, ho, hb⟩ := hrel
  obtain ⟨A', c', rfl, _, _⟩ := ho.form
  have hdl := dig_len j n
  rw [hdl] at ho ⊢
  clear hdl
  have HO := hide ho
  have HB := hide hb
  have hsz := hb.size
  clear ho hb
  by_cases h0 : n / 256 ^ j = 0
  ·have hjb : j = blen n := by have := (blen_iff n j).1 h0; omega
   have HJ := hide hjb
   have hj8 : j ≤ 8 := by have := H8.out; omega
   rw [h0]
   clear hjb h0
   have HC : Hid ((#[.int .u8 (j : Int)] : Array Value).toList = [UInt8.ofNat (blen n)].map bv) := by
    unfold Hid; rw [← HJ.out]; simp only [List.map_cons, List.map_nil, bv, u8]; rw [UInt8.toNat_ofNat', Nat.mod_eq_of_lt (by omega)]
   have HL1 : Hid (0 + l.length ≤ 140737488355328) := by unfold Hid; have := HLN.out; have := HL.out; omega
   have HL2 : Hid ((([] : List UInt8) ++ l).length + 1 ≤ 140737488355328) := by unfold Hid; have := HLN.out; have := HL.out; simp; omega
   have HL3 : Hid (((([] : List UInt8) ++ l) ++ [UInt8.ofNat (blen n)]).length + (dig j n).length ≤ 140737488355328) := by
    unfold Hid; rw [dig_len]; have := HLN.out; have := HL.out; simp; omega
   have HW1 := hide ((H.out.step HB.out).alloc (.cells #[] 5))
   have HO1 := hide (HO.out.alloc (.cells #[] 5))
   have HNE : Hid (∀ k, (Value.slice A' j c').ownBlock = some k → k < wr.heap.size) := hide fun k hk => (HO.out.lt k hk).2
   go_wp2_with (first
    | (at_builtin; refine wpList_append_bs rfl (.tmp 19) (.tmp 20) rfl w.heap.size (v := .slice (some ⟨wr.heap.size, 0, none⟩) 0 0) (l := []) (m := l) rfl (Ow.made [] #[] rfl hsz (by simp)) rfl HW1.out HL1.out (by simp; omega) ?_; intro v1 w1 how1 hg1 hw1; obtain ⟨A1, m1, c1, rfl, hm1, hc11, hc12⟩ := how1.formN; have HO2 := hide (HO1.out.grown hg1 (own_new HNE.out)); have HOW1 := hide how1; have HB1 := hide (below_grown (HB.out.alloc hsz _) hg1 (by simp; omega) hsz); have HA1 := hide (own_from (B := wr.heap.size) hw1 (Nat.le_refl _) (by simp)); clear how1 hg1 hw1 HW1 HO1; have hsz1 := HB1.out.size)
    | (at_builtin; refine wpList_append_bs rfl (.tmp 21) (.tmp 25) rfl w.heap.size rfl (HOW1.out.alloc _) rfl (Ow.made (base := w1.heap.size) [UInt8.ofNat (blen n)] _ HC.out (Nat.le_refl _) (by simp [maxLen])).bs HL2.out (by simp; omega) ?_; intro v2 w2 how2 hg2 hw2; obtain ⟨A2, m2, c2, rfl, hm2, hc21, hc22⟩ := how2.formN; have HO3 := hide ((HO2.out.alloc _).grown hg2 (own_apart HNE.out HA1.out)); have HOW2 := hide how2; have HB2 := hide (below_append (HB1.out.alloc hsz1 _) (HOW1.out.alloc _) hg2 (by simp; omega) (Nat.le_refl _)); clear how2 hg2 hw2; have hsz2 := HB2.out.size)
    | (at_builtin; refine wpList_append_bs rfl (.tmp 26) (.tmp 27) rfl w.heap.size rfl HOW2.out rfl HO3.out.bs HL3.out hsz2 ?_; intro v3 w3 how3 hg3 hw3; have HOW3 := hide how3; have HB3 := hide (below_append HB2.out HOW2.out hg3 hsz2 (Nat.le_refl _)); clear how3 hg3 hw3))
   go_ret
   exact ⟨_, rfl, by have := HOW3.out; rw [HJ.out] at this; simpa [enc] using this, HB3.out⟩
  ·have hjlt : j < blen n := by
    rcases Nat.lt_or_ge j (blen n) with h | h
    ·exact h
    ·exact absurd ((blen_iff n j).2 h) h0
   have HJ := hide hjlt
   obtain ⟨x, hx⟩ : ∃ x, x = n / 256 ^ j := ⟨_, rfl⟩
   have HX := hide hx
   have hxlt : x < 18446744073709551616 := by have := Nat.div_le_self n (256 ^ j); omega
   rw [← hx] at h0 ⊢
   have hxp : (0 : Int) < (x : Int) := by omega
   have HC := hide (u8_mod x)
   have HL1 : Hid ([UInt8.ofNat (x % 256)].length + (dig j n).length ≤ 140737488355328) := by unfold Hid; rw [dig_len]; have := H8.out; simp; omega
   clear hx h0 hjlt
   go_wp2_with (at_builtin; refine wpList_append_bs rfl (.tmp 16) (.tmp 17) rfl w.heap.size rfl (Ow.made (base := w.heap.size) [UInt8.ofNat (x % 256)] _ HC.out hsz (by simp [maxLen])) rfl (HO.out.alloc _).bs HL1.out (by simp; omega) ?_; intro v1 w1 how1 hg1 hw1; have HOW1 := hide how1; have HB1 := hide (below_grown (HB.out.alloc hsz _) hg1 (by simp; omega) hsz); clear how1 hg1 hw1)
   go_roundw
   case rel => exact ⟨j + 1, HJ.out, (by rw [Nat.pow_succ, ← Nat.div_div_eq_div_mul, ← HX.out]; simp), (by rw [dig_succ, ← HX.out]; exact HOW1.out), HB1.out⟩
   case measure => simp [intOf]; omega
set_option maxHeartbeats 1000000 in
theorem refText_c (v : Value) (l : List UInt8) (s : ByteArray) (w : World) (h : Bs w v l) (hl : l.length ≤ 35184372088832) (hs : s.size ≤ 35184372088832) :
 Calls Tryz.prog 76 #[v, .string s] w (Fresh w (l ++ encT s)) := by
 have HN := hide (refNumber_c v l s.size (by omega) w h (by omega))
 obtain ⟨A, c, rfl, _, _⟩ := h.form
 have hb := blen_le 8 s.size (by omega)
 have HL : Hid ((l ++ enc s.size).length + s.size ≤ 140737488355328) := by unfold Hid enc; simp [dig_len]; omega
 clear h hb hl
 generalize l.length = ln at HN
 go_enter Tryz.func76, Tryz.ntmps76
 go_wp2_with fail
 refine HN.out.mono ?_
 rintro e w1 ⟨v1, rfl, ho, hb⟩
 have HO := hide ho
 have HB := hide hb
 have hsz := hb.size
 clear ho hb
 go_wp2_with (at_builtin; refine wpList_append_str rfl _ _ rfl w.heap.size rfl HO.out rfl HL.out hsz ?_; intro v2 w2 ho2 _ hg2 hv2)
 go_ret
 exact ⟨v2, rfl, by rw [encT, ← List.append_assoc]; exact ho2, below_append HB.out HO.out hg2 hsz (Nat.le_refl _)⟩
end
end Go.Proofs.YtpadgkkeihhneaaGreat
