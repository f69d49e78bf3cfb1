/- The message of a group is read. -/
import Derived.Test.YtpbgelhjbfckcaaV14
import Derived.Lib.ConvBytes
namespace Go.Proofs.Ytpbgelhjbfckcaa
set_option linter.unusedVariables false
set_option linter.unusedSimpArgs false
set_option maxRecDepth 100000
section
open Go.ChangeShapes Go.WideShapes Go.ChangeAt Go.RowKit
/-! ### a string's bytes -/
theorem bs_bytesWorld (w : World) (s : ByteArray) (hs : s.size ≤ 1000000000) : Bs (Lib.bytesWorld w 5 s) (.slice (some ⟨w.heap.size, 0, none⟩) s.size (grownCap w s.size 0 5)) s.data.toList := by
 have hl : s.data.toList.length = s.size := by rw [Array.length_toList]; rfl
 refine ⟨_, _, by rw [hl], by rw [hl]; exact grownCap_ge _ _ _ _, grownCap_le_maxLen _ _ _ _ (by unfold maxLen; omega), fun h0 => ⟨w.heap.size, 0, rfl, by rw [Lib.bytesWorld_size]; omega, fun j hj => ?_⟩⟩
 rw [hl] at hj
 rw [Nat.zero_add, Lib.bytesWorld_cell w 5 s j hj]
 simp only [bv, u8]
 rw [List.getD_eq_getElem?_getD, List.getElem?_eq_getElem (by rw [hl]; exact hj)]
 rfl
theorem below_bytesWorld (w : World) (s : ByteArray) : Below w.heap.size w (Lib.bytesWorld w 5 s) :=
 ⟨rfl, rfl, rfl, by rw [Lib.bytesWorld_size]; omega, fun k hk => Lib.bytesWorld_at_old w _ s k hk⟩
theorem at_convert {P : Program} {w : World} {ops : Array Oper} {rest : List Oper} {d : Option Tmp} {ty : TypeId} {p : String} {af : Array Edge} {g : Option (Nat × Bool)} {a : Act} {Q : Exit → Act → World → Prop} (s t : TypeId) (x : Operand) (h : wpList P ops Q ({ dst := d, op := .convert s t x, type := ty, pos := p, after := af, guard := g } :: rest) a w) : wpList P ops Q ({ dst := d, op := .convert s t x, type := ty, pos := p, after := af, guard := g } :: rest) a w := h
theorem wpList_bytes {ops : Array Oper} {rest : List Oper} {o : Oper} {a : Act} {w : World} {Q : Exit → Act → World → Prop} (hgd : o.guard = none) (x : Operand) (ho : o.op = .convert 9 102 x) (s : ByteArray) (hx : a.eval x = .string s) (hs : s.size ≤ 1000000000)
 (h : ∀ v w', Bs w' v s.data.toList → Below w.heap.size w w' → wpList Try.prog ops Q rest (a.put o.dst v) w') : wpList Try.prog ops Q (o :: rest) a w := by
 refine wpList_plain hgd fun K hK => ?_
 have hr := Lib.run_convert_string_bytes (P := Try.prog) w 9 102 5 s Try.underlying9 Try.underlying102 Try.underlying5
 unfold Oper.wp execOp
 simp only [ho, hx, Sem.run_bind, hr, Result.andThen_ok]
 exact hK _ _ (h _ _ (bs_bytesWorld w s hs) (below_bytesWorld w s))
/-! ### blocks of one's own, and what others turn -/
theorem Own.putN {w0 W W' : World} {S T : List Nat} {L : List (Nat × TypeId × List Value)} (h : Own w0 S L W) (i : Nat) {b : Nat} {t : TypeId} {cs new : List Value} (hi : L[i]? = some (b, t, cs)) (hx : Blk W' b t new.toArray) (ht : Touch T W W') (hT : ∀ s ∈ T, s = b ∨ ((s ∈ S ∨ w0.heap.size ≤ s) ∧ s ∉ L.map (·.1))) : Own w0 S (L.set i (b, t, new)) W' := by
 have hm : (L.set i (b, t, new)).map (·.1) = L.map (·.1) := by
  rw [List.map_set]
  refine List.ext_getElem? fun j => ?_
  rw [List.getElem?_set]
  by_cases hj : i = j
  ·subst hj
   have hl := (List.getElem?_eq_some_iff.1 hi).1
   rw [if_pos rfl, if_pos (by simpa using hl), List.getElem?_map, hi]; rfl
  ·rw [if_neg hj]
 have hnew := h.new i hi
 refine ⟨fun e he => ?_, hm ▸ h.apart, h.touch.next ht (fun x hx' => ?_), h.old⟩
 ·obtain ⟨j, hj⟩ := List.getElem?_of_mem he
  rw [List.getElem?_set] at hj
  by_cases hij : i = j
  ·subst hij
   have hl := (List.getElem?_eq_some_iff.1 hi).1
   rw [if_pos rfl, if_pos hl] at hj
   injection hj with hj
   subst hj
   exact ⟨hx, hnew⟩
  ·rw [if_neg hij] at hj
   have hmem := List.mem_of_getElem? hj
   refine ⟨(h.has e hmem).1.touch ht ?_, (h.has e hmem).2⟩
   intro hmt
   rcases hT _ hmt with e1 | e1
   ·have hnd := List.pairwise_iff_getElem.1 h.apart
    have hl1 := (List.getElem?_eq_some_iff.1 hi).1
    have hl2 := (List.getElem?_eq_some_iff.1 hj).1
    have q1 : (L.map (·.1))[i]'(by simpa using hl1) = b := by rw [List.getElem_map, (List.getElem?_eq_some_iff.1 hi).2]
    have q2 : (L.map (·.1))[j]'(by simpa using hl2) = b := by rw [List.getElem_map, (List.getElem?_eq_some_iff.1 hj).2]; exact e1
    rcases Nat.lt_or_gt_of_ne hij with h1 | h1
    ·exact hnd i j (by simpa using hl1) (by simpa using hl2) h1 (q1.trans q2.symm)
    ·exact hnd j i (by simpa using hl2) (by simpa using hl1) h1 (q2.trans q1.symm)
   ·exact e1.2 (List.mem_map.2 ⟨e, hmem, rfl⟩)
 ·rcases hT x hx' with e1 | e1
  ·exact .inr (e1 ▸ hnew)
  ·exact e1.1
theorem OwE.formN {w : World} {base : Nat} {v : Value} {css : List (List Value)} (h : OwE w base v css) : ∃ A n c, v = .slice A n c := by
 obtain ⟨_, ⟨rfl, _⟩ | ⟨g, cap, cur, rfl, _⟩⟩ := h <;> exact ⟨_, _, _, rfl⟩
theorem OwE.lower {w : World} {b b' : Nat} {v : Value} {css : List (List Value)} (h : OwE w b v css) (hb : b' ≤ b) : OwE w b' v css := by
 obtain ⟨hl, h1 | ⟨g, cap, cur, rfl, hb2, r⟩⟩ := h
 ·exact ⟨hl, .inl h1⟩
 ·exact ⟨hl, .inr ⟨g, cap, cur, rfl, Nat.le_trans hb hb2, r⟩⟩
theorem EnAB.lower {w : World} {A0 A1 : Nat} {cs : List Value} {x : En} (h : EnAB w A0 cs x) (hA : A1 ≤ A0) : EnAB w A1 cs x := by
 obtain ⟨vf, vt, vo, vn, vl, e, h1, h2, h3, h4, h5⟩ := h
 exact ⟨vf, vt, vo, vn, vl, e, h1.lower hA, h2.lower hA, h3.lower hA, h4.lower hA, h5.lower hA⟩
theorem EnsAt.lower {w : World} {A0 A1 : Nat} {css : List (List Value)} {l : List En} (h : EnsAt w A0 css l) (hA : A1 ≤ A0) : EnsAt w A1 css l := ⟨h.1, fun i h1 h2 => (h.2 i h1 h2).lower hA⟩
/-! ### the plain reader -/
structure GM where
 is : List Int
 gr : Bool
 dn : Bool
 d : ByteArray
 l : List En
def gm0 : GM := ⟨[0, 0, 0, 0, 0, 0, 0, 0, 0], false, false, ⟨#[]⟩, []⟩
def rMsg (s : List UInt8) : RS × GM :=
 let a := rList 9 (s, 0)
 let g := rBool a.1
 let d := rBool g.1
 let t := rText d.1
 let n := rCnt t.1
 let e := rEns n.2 n.1
 (e.1, ⟨a.2, g.2, d.2, ⟨t.2.toArray⟩, e.2⟩)
def dMsg (s : List UInt8) : GM := if rEnd (rMsg s).1 = 0 then (rMsg s).2 else gm0
/-- The cells of a group's message; v is the slice of its entries. -/
def gmCs (m : GM) (v : Value) : List Value := [.int .i64 (m.is.getD 0 0), .int .i64 (m.is.getD 1 0), .int .i64 (m.is.getD 2 0), .int .i64 (m.is.getD 3 0), .int .i64 (m.is.getD 4 0), .int .i64 (m.is.getD 5 0), .int .i64 (m.is.getD 6 0), .int .i64 (m.is.getD 7 0), .bool m.gr, v, .int .i64 (m.is.getD 8 0), .string m.d, .bool m.dn]
/-- The message's entries lie from A0 on. -/
def EsAB (w : World) (A0 : Nat) (v : Value) (l : List En) : Prop := ∃ css, OwE w A0 v css ∧ EnsAt w A0 css l
theorem EsAB.touch {w w' : World} {A0 : Nat} {v : Value} {l : List En} {S : List Nat} (h : EsAB w A0 v l) (k : Touch S w w') (hS : ∀ s ∈ S, s < A0) : EsAB w' A0 v l := by
 obtain ⟨css, h1, h2⟩ := h
 exact ⟨css, h1.touch k (fun j hj hm => by have := hS _ hm; have := (h1.lt j hj).1; omega), h2.turn k (fun s hs => .inl (hS s hs))⟩
theorem EsAB.lower {w : World} {A0 A1 : Nat} {v : Value} {l : List En} (h : EsAB w A0 v l) (hA : A1 ≤ A0) : EsAB w A1 v l := by
 obtain ⟨css, h1, h2⟩ := h
 exact ⟨css, h1.lower hA, h2.lower hA⟩
theorem EsAB.nil (w : World) (A0 : Nat) : EsAB w A0 (.slice none 0 0) [] := ⟨[], OwE.nil _ _, EnsAt.nil _ _⟩
def DMsgR (w : World) (s : List UInt8) (e : Ending) (w' : World) : Prop := ∃ A n c z, e = .returned (.tuple #[.agg (gmCs (dMsg s) (.slice A n c)).toArray, .int .i64 z]) ∧ EsAB w' w.heap.size (.slice A n c) (dMsg s).l ∧ Below w.heap.size w w'
theorem list9 {l : List Int} (h : l.length = 9) : ∃ a b c d e f g i j, l = [a, b, c, d, e, f, g, i, j] := by
 match l, h with
 | [a, b, c, d, e, f, g, i, j], _ => exact ⟨a, b, c, d, e, f, g, i, j, rfl⟩
abbrev zgm : List Value := [zi, zi, zi, zi, zi, zi, zi, zi, .bool false, zl, zi, zs, .bool false]
theorem info_gm0 : (Try.prog.info? 39).map (·.zero) = some (some (.agg zgm.toArray)) := by kernel_rfl
theorem info_rd0 : (Try.prog.info? 157).map (·.zero) = some (some (.agg ([.pointer none] : List Value).toArray)) := by kernel_rfl
section
attribute [local irreducible] rList rGL rText rCnt rBool rEns rInt
set_option maxRecDepth 100000 in
set_option maxHeartbeats 8000000 in
theorem dmsg_c (s : ByteArray) (w : World) (hs : s.size ≤ 1000000000) : Calls Try.prog 74 #[.string s] w (DMsgR w s.data.toList) := by
 have HL : Hid (s.data.toList.length ≤ 1000000000) := hide (by rw [Array.length_toList]; exact hs)
 have HS := hide hs
 have HO := hide (Own.nil w [] (by simp))
 clear hs
 go_enter Try.func74, Try.ntmps74
 go_wp2_with ((with_reducible refine at_alloc 39 ?_); refine wpList_alloc_own HO.out rfl 39 rfl zgm info_gm0 ?_; intro WA gR hO; replace HO := hide hO; clear hO; refine Hid.out ?_)
 refine hide ?_
 go_wp2_with (first
  | ((with_reducible refine at_alloc 39 ?_); refine wpList_alloc_own HO.out rfl 39 rfl zgm info_gm0 ?_; intro WB gM hO; replace HO := hide hO; clear hO)
  | ((with_reducible refine at_convert 9 102 (.tmp 6) ?_); refine wpList_bytes rfl (.tmp 6) rfl s rfl HS.out ?_; intro vb WC hbs hbl; have HBS := hide hbs; replace HO := hide (HO.out.step hbl); clear hbs hbl))
 refine (newReader_c _ _ WC HBS.out (by have := HL.out; omega)).mono ?_
 rintro e w2 ⟨b, k, rfl, hr, hbl, hbn, hkn⟩
 have HR := hide hr;have HR2 := hide hr
 have hgR := (HO.out.blk 0 rfl).lt
 have hgM := (HO.out.blk 1 rfl).lt
 have HAP : Hid (w.heap.size ≤ b ∧ b ≠ gR ∧ b ≠ gM ∧ (∀ y, k = some y → w.heap.size ≤ y ∧ y < w2.heap.size ∧ y ≠ gR ∧ y ≠ gM)) := hide ⟨Nat.le_trans HO.out.size hbn, by omega, by omega, fun y hy => by have := hkn y hy; have := HO.out.size; exact ⟨by omega, by omega, by omega, by omega⟩⟩
 replace HO := hide (HO.out.step hbl)
 have HGM : Hid (gM < w2.heap.size) := hide (HO.out.blk 1 rfl).lt
 clear hr hbl hbn hkn hgR hgM HBS
 have HP := hide (Own.nil w2 [] (by simp))
 go_wp2_with (first
  | ((with_reducible refine at_build 157 ?_); refine wpList_build rfl 157 _ rfl ([(0, at0 b)]) (by first | (simp [Act.eval]; done) | (simp [Act.eval]; rfl)) ([at0 b] : List Value).toArray (by kernel_rfl) ?_)
  | ((with_reducible refine at_alloc 157 ?_); refine wpList_alloc_own HP.out rfl 157 rfl [.pointer none] info_rd0 ?_; intro WD q hO; replace HP := hide hO; clear hO)
  | ((with_reducible refine at_store 157 (.tmp 5) ?_); refine wpList_store_own HP.out rfl 157 (.tmp 5) (.tmp 9) rfl 0 _ 0 _ _ [at0 b] [at0 b] rfl (.agg ([at0 b] : List Value).toArray) rfl rfl (fits_agg _) (by simp) rfl (by kernel_rfl) rfl ?_; intro WE hO; replace HP := hide hO; clear hO)
  | ((with_reducible refine at_load 157 (.tmp 5) ?_); refine wpList_load_own HP.out rfl 157 (.tmp 5) rfl 0 _ 0 1 _ _ [at0 b] _ rfl rfl rfl Try.underlying157 rfl (by kernel_rfl) ?_)
  | ((with_reducible refine at_sliceV 125 9 _ ?_); refine wpList_slice_ownV HP.out rfl 125 121 _ ([.pointer (some ⟨gM, 0, none⟩), .pointer (some ⟨gM, 1, none⟩), .pointer (some ⟨gM, 2, none⟩), .pointer (some ⟨gM, 3, none⟩), .pointer (some ⟨gM, 4, none⟩), .pointer (some ⟨gM, 5, none⟩), .pointer (some ⟨gM, 6, none⟩), .pointer (some ⟨gM, 7, none⟩), .pointer (some ⟨gM, 10, none⟩)]) rfl (by simp [Act.eval]) Try.underlying125 (by kernel_rfl) (by kernel_rfl) (by simp [Value.cells]) (by simp) (by simp) ?_; intro WF p hO; replace HP := hide hO; clear hO))
 have HB1 := HP.out.below
 replace HO := hide (HO.out.step HB1)
 replace HR := hide (HR.out.step HB1)
 have hp2 := HP.out.new 1 rfl
 have hbw : b < w2.heap.size := HR2.out.lt
 have hgm : gM < w2.heap.size := HGM.out
 have hsz1 := HP.out.size
 refine (rints_c b k _ 0 gM 39 zgm [0, 1, 2, 3, 4, 5, 6, 7, 10] (.slice (some ⟨p, 0, none⟩) 9 9) WF HR.out (blk_ptrs (ns := [0, 1, 2, 3, 4, 5, 6, 7, 10]) (HP.out.blk 1 rfl) (by decide)) (HO.out.blk 1 rfl) (fun y hy => by injection hy with hy; have e1 : p = y := hy; subst e1; exact ⟨by omega, by omega⟩) (Ne.symm HAP.out.2.2.1) (fun e => (HAP.out.2.2.2 gM e).2.2.2 rfl) HL.out (by decide)).mono ?_
 rintro e w3 ⟨rfl, hr3, hb3, ht3⟩
 obtain ⟨i0, i1, i2, i3, i4, i5, i6, i7, i8, hx9⟩ := list9 (rList_size 9 (s.data.toList, 0))
 obtain ⟨l3, c3, h3⟩ : ∃ l c, rList 9 (s.data.toList, 0) = ((l, c), [i0, i1, i2, i3, i4, i5, i6, i7, i8]) := ⟨_, _, by rw [← hx9]⟩
 have hr3' : Rd w3 b k (rList 9 (s.data.toList, 0)).1.1 (rList 9 (s.data.toList, 0)).1.2 := hr3
 have hb3' : Blk w3 gM 39 (setI zgm ([0, 1, 2, 3, 4, 5, 6, 7, 10].zip (rList 9 (s.data.toList, 0)).2)).toArray := hb3
 rw [h3] at hr3' hb3'
 have hl3 := rList_len 9 (s.data.toList, 0)
 rw [h3] at hl3
 have HL3 : Hid (l3.length ≤ 1000000000) := hide (Nat.le_trans hl3 HL.out)
 replace HR : Hid (Rd w3 b k l3 c3) := hide hr3'
 replace HO := hide (HO.out.putN (new := [.int .i64 i0, .int .i64 i1, .int .i64 i2, .int .i64 i3, .int .i64 i4, .int .i64 i5, .int .i64 i6, .int .i64 i7, .bool false, zl, .int .i64 i8, zs, .bool false]) 1 rfl hb3' ht3 (fun s hs => by
  simp only [List.mem_cons, List.not_mem_nil, or_false] at hs
  rcases hs with rfl | rfl
  ·exact .inl rfl
  ·exact .inr ⟨.inr HAP.out.1, by simp only [List.nil_append, List.cons_append, List.map_cons, List.map_nil, List.mem_cons, List.not_mem_nil, or_false, not_or]; exact ⟨HAP.out.2.1, HAP.out.2.2.1⟩⟩))
 replace HP := hide ((HP.out.plus [gM, b] (by intro s hs; simp only [List.mem_cons, List.not_mem_nil, or_false] at hs; rcases hs with rfl | rfl <;> assumption)).call ht3 (by simp))
 have H3 := hide h3
 have HK : Hid (∀ y, k = some y → y < w2.heap.size) := hide (fun y hy => (HAP.out.2.2.2 y hy).2.1)
 clear hx9 h3 hr3 hb3 hr3' hb3' hl3 ht3 hp2 hbw hgm hsz1 HB1
 have k0 : ∀ j, w3.cell? ⟨q, j, none⟩ = ([at0 b] : List Value)[j]? := HP.out.cells 0 rfl
 go_wp2_with fail
 have hc := rdBool_c b k l3 c3 w3 HR.out (by have := HL3.out; omega)
 obtain ⟨l4, c4, gr, h4⟩ : ∃ l c x, rBool (l3, c3) = ((l, c), x) := ⟨_, _, _, rfl⟩
 have hl4 : (rBool (l3, c3)).1.1.length ≤ l3.length := rBool_len l3 c3
 rw [h4] at hc hl4
 have HL4 : Hid (l4.length ≤ 1000000000) := hide (Nat.le_trans hl4 HL3.out)
 refine hc.mono ?_
 rintro e w4 ⟨rfl, hr, ht⟩
 replace HR : Hid (Rd w4 b k l4 c4) := hide hr
 replace HO := hide (HO.out.callN ht (fun s hs => by
  obtain rfl := List.mem_singleton.1 hs
  exact ⟨.inr HAP.out.1, by simp only [List.nil_append, List.cons_append, List.set_cons_zero, List.set_cons_succ, List.map_cons, List.map_nil, List.mem_cons, List.not_mem_nil, or_false, not_or]; exact ⟨HAP.out.2.1, HAP.out.2.2.1⟩⟩))
 replace HP := hide (HP.out.call ht (by simp))
 have H4 := hide h4;clear hc h4 hl4 hr ht k0
 go_wp2_with ((with_reducible refine at_store 4 (.tmp 25) ?_); refine wpList_store_own_t HO.out rfl 4 (.tmp 25) (.tmp 24) rfl 1 _ 8 _ _ [.bool gr] ([.int .i64 i0, .int .i64 i1, .int .i64 i2, .int .i64 i3, .int .i64 i4, .int .i64 i5, .int .i64 i6, .int .i64 i7, .bool gr, zl, .int .i64 i8, zs, .bool false]) rfl (.bool gr) rfl rfl (fits_one rfl) (by simp) rfl (by kernel_rfl) rfl ?_; intro W4 hO hB hT; replace HO := hide hO; have HT := hide hT; clear hO hB hT; refine Hid.out ?_)
 replace HR := hide (HR.out.touch HT.out (by simpa using HAP.out.2.2.1) (fun y hy hm => (HAP.out.2.2.2 y hy).2.2.2 (by simpa using hm)))
 replace HP := hide (HP.out.call HT.out (by simp))
 clear HT
 refine hide ?_
 have k0 : ∀ j, W4.cell? ⟨q, j, none⟩ = ([at0 b] : List Value)[j]? := HP.out.cells 0 rfl
 go_wp2_with fail
 have hc := rdBool_c b k l4 c4 W4 HR.out (by have := HL4.out; omega)
 obtain ⟨l5, c5, dn, h5⟩ : ∃ l c x, rBool (l4, c4) = ((l, c), x) := ⟨_, _, _, rfl⟩
 have hl5 : (rBool (l4, c4)).1.1.length ≤ l4.length := rBool_len l4 c4
 rw [h5] at hc hl5
 have HL5 : Hid (l5.length ≤ 1000000000) := hide (Nat.le_trans hl5 HL4.out)
 refine hc.mono ?_
 rintro e w5 ⟨rfl, hr, ht⟩
 replace HR : Hid (Rd w5 b k l5 c5) := hide hr
 replace HO := hide (HO.out.callN ht (fun s hs => by
  obtain rfl := List.mem_singleton.1 hs
  exact ⟨.inr HAP.out.1, by simp only [List.nil_append, List.cons_append, List.set_cons_zero, List.set_cons_succ, List.map_cons, List.map_nil, List.mem_cons, List.not_mem_nil, or_false, not_or]; exact ⟨HAP.out.2.1, HAP.out.2.2.1⟩⟩))
 replace HP := hide (HP.out.call ht (by simp))
 have H5 := hide h5;clear hc h5 hl5 hr ht k0
 go_wp2_with ((with_reducible refine at_store 4 (.tmp 29) ?_); refine wpList_store_own_t HO.out rfl 4 (.tmp 29) (.tmp 28) rfl 1 _ 12 _ _ [.bool dn] ([.int .i64 i0, .int .i64 i1, .int .i64 i2, .int .i64 i3, .int .i64 i4, .int .i64 i5, .int .i64 i6, .int .i64 i7, .bool gr, zl, .int .i64 i8, zs, .bool dn]) rfl (.bool dn) rfl rfl (fits_one rfl) (by simp) rfl (by kernel_rfl) rfl ?_; intro W5 hO hB hT; replace HO := hide hO; have HT := hide hT; clear hO hB hT; refine Hid.out ?_)
 replace HR := hide (HR.out.touch HT.out (by simpa using HAP.out.2.2.1) (fun y hy hm => (HAP.out.2.2.2 y hy).2.2.2 (by simpa using hm)))
 replace HP := hide (HP.out.call HT.out (by simp))
 clear HT
 refine hide ?_
 have k0 : ∀ j, W5.cell? ⟨q, j, none⟩ = ([at0 b] : List Value)[j]? := HP.out.cells 0 rfl
 go_wp2_with fail
 have hc := rdText_c b k l5 c5 W5 HR.out (by have := HL5.out; omega) (fun y hy => Nat.lt_of_lt_of_le (HK.out y hy) HP.out.size)
 obtain ⟨l6, c6, tx, h6⟩ : ∃ l c x, rText (l5, c5) = ((l, c), x) := ⟨_, _, _, rfl⟩
 have hl6 : (rText (l5, c5)).1.1.length ≤ l5.length := (rText_both (l5, c5)).1
 rw [h6] at hc hl6
 have HL6 : Hid (l6.length ≤ 1000000000) := hide (Nat.le_trans hl6 HL5.out)
 refine hc.mono ?_
 rintro e w6 ⟨rfl, hr, ht⟩
 replace HR : Hid (Rd w6 b k l6 c6) := hide hr
 replace HO := hide (HO.out.callN ht (fun s hs => by
  obtain rfl := List.mem_singleton.1 hs
  exact ⟨.inr HAP.out.1, by simp only [List.nil_append, List.cons_append, List.set_cons_zero, List.set_cons_succ, List.map_cons, List.map_nil, List.mem_cons, List.not_mem_nil, or_false, not_or]; exact ⟨HAP.out.2.1, HAP.out.2.2.1⟩⟩))
 replace HP := hide (HP.out.call ht (by simp))
 have H6 := hide h6;clear hc h6 hl6 hr ht k0
 obtain ⟨sd, hsd⟩ : ∃ x : ByteArray, (⟨tx.toArray⟩ : ByteArray) = x := ⟨_, rfl⟩
 simp only [hsd]
 have HSD := hide hsd;clear hsd
 go_wp2_with ((with_reducible refine at_store 9 (.tmp 33) ?_); refine wpList_store_own_t HO.out rfl 9 (.tmp 33) (.tmp 32) rfl 1 _ 11 _ _ [.string sd] ([.int .i64 i0, .int .i64 i1, .int .i64 i2, .int .i64 i3, .int .i64 i4, .int .i64 i5, .int .i64 i6, .int .i64 i7, .bool gr, zl, .int .i64 i8, .string sd, .bool dn]) rfl (.string sd) rfl rfl (fits_one rfl) (by simp) rfl (by kernel_rfl) rfl ?_; intro W6 hO hB hT; replace HO := hide hO; have HT := hide hT; clear hO hB hT; refine Hid.out ?_)
 replace HR := hide (HR.out.touch HT.out (by simpa using HAP.out.2.2.1) (fun y hy hm => (HAP.out.2.2.2 y hy).2.2.2 (by simpa using hm)))
 replace HP := hide (HP.out.call HT.out (by simp))
 clear HT
 refine hide ?_
 have k0 : ∀ j, W6.cell? ⟨q, j, none⟩ = ([at0 b] : List Value)[j]? := HP.out.cells 0 rfl
 go_wp2_with ((with_reducible refine at_load 157 (.tmp 5) ?_); refine wpList_load_own HP.out rfl 157 (.tmp 5) rfl 0 _ 0 1 _ _ [at0 b] _ rfl rfl rfl Try.underlying157 rfl (by kernel_rfl) ?_)
 have hc := rentries_c b k l6 c6 W6 HR.out (by have := HL6.out; omega) (fun y hy => Nat.lt_of_lt_of_le (HK.out y hy) HP.out.size)
 obtain ⟨r7, n7, h7⟩ : ∃ r n, rCnt (l6, c6) = (r, n) := ⟨_, _, rfl⟩
 obtain ⟨l8, c8, le, h8⟩ : ∃ l c x, rEns n7 r7 = ((l, c), x) := ⟨_, _, _, rfl⟩
 rw [h7] at hc
 simp only [h8] at hc
 refine hc.mono ?_
 rintro e w7 ⟨v, css, rfl, ho, hen, hr, ht⟩
 obtain ⟨A, n, c, rfl⟩ := ho.formN
 have HMQ : Hid (rMsg s.data.toList = ((l8, c8), ⟨[i0, i1, i2, i3, i4, i5, i6, i7, i8], gr, dn, sd, le⟩)) := hide (by unfold rMsg; simp only [H3.out, H4.out, H5.out, H6.out, h7, h8, HSD.out])
 replace HR : Hid (Rd w7 b k l8 c8) := hide hr
 have HES : Hid (EsAB w7 W6.heap.size (.slice A n c) le) := hide ⟨css, ho, hen⟩
 have HGW : Hid (gM < W6.heap.size ∧ gR < W6.heap.size ∧ w.heap.size ≤ W6.heap.size) := hide ⟨(HO.out.blk 1 rfl).lt, (HO.out.blk 0 rfl).lt, HO.out.size⟩
 replace HO := hide (HO.out.callN ht (fun s hs => by
  obtain rfl := List.mem_singleton.1 hs
  exact ⟨.inr HAP.out.1, by simp only [List.nil_append, List.cons_append, List.set_cons_zero, List.set_cons_succ, List.map_cons, List.map_nil, List.mem_cons, List.not_mem_nil, or_false, not_or]; exact ⟨HAP.out.2.1, HAP.out.2.2.1⟩⟩))
 replace HP := hide (HP.out.call ht (by simp))
 clear hc h7 h8 ho hen hr ht k0 H3 H4 H5 H6 HSD
 go_wp2_with ((with_reducible refine at_store 37 (.tmp 36) ?_); refine wpList_store_own_t HO.out rfl 37 (.tmp 36) (.tmp 35) rfl 1 _ 9 _ _ [.slice A n c] ([.int .i64 i0, .int .i64 i1, .int .i64 i2, .int .i64 i3, .int .i64 i4, .int .i64 i5, .int .i64 i6, .int .i64 i7, .bool gr, .slice A n c, .int .i64 i8, .string sd, .bool dn]) rfl (.slice A n c) rfl rfl (fits_one rfl) (by simp) rfl (by kernel_rfl) rfl ?_; intro W8 hO hB hT; replace HO := hide hO; have HT := hide hT; clear hO hB hT; refine Hid.out ?_)
 replace HES := hide (HES.out.touch HT.out (fun s hs => by rw [List.mem_singleton.1 hs]; exact HGW.out.1))
 replace HR := hide (HR.out.touch HT.out (by simpa using HAP.out.2.2.1) (fun y hy hm => (HAP.out.2.2.2 y hy).2.2.2 (by simpa using hm)))
 replace HP := hide (HP.out.call HT.out (by simp))
 clear HT
 refine hide ?_
 have k0 : ∀ j, W8.cell? ⟨q, j, none⟩ = ([at0 b] : List Value)[j]? := HP.out.cells 0 rfl
 go_wp2_with fail
 have hc := end_c b k l8 c8 W8 HR.out
 obtain ⟨z, hz⟩ : ∃ z, rEnd (l8, c8) = z := ⟨_, rfl⟩
 rw [hz] at hc
 refine hc.mono ?_
 rintro e w9 ⟨rfl, rfl⟩
 have HZ := hide hz;clear hc hz k0
 by_cases h0 : z = 0
 ·subst h0
  have HD : Hid (dMsg s.data.toList = ⟨[i0, i1, i2, i3, i4, i5, i6, i7, i8], gr, dn, sd, le⟩) := hide (by unfold dMsg; rw [HMQ.out]; simp only [HZ.out]; rfl)
  go_wp2_with (first
   | ((with_reducible refine at_load 39 (.tmp 4) ?_); refine wpList_load_own HO.out rfl 39 (.tmp 4) rfl 1 _ 0 13 _ _ ([.int .i64 i0, .int .i64 i1, .int .i64 i2, .int .i64 i3, .int .i64 i4, .int .i64 i5, .int .i64 i6, .int .i64 i7, .bool gr, .slice A n c, .int .i64 i8, .string sd, .bool dn]) _ rfl rfl rfl Try.underlying39 rfl size_gm ?_)
   | ((with_reducible refine at_store 39 (.tmp 2) ?_); refine wpList_store_own_t HO.out rfl 39 (.tmp 2) (.tmp 42) rfl 0 _ 0 _ _ ([.int .i64 i0, .int .i64 i1, .int .i64 i2, .int .i64 i3, .int .i64 i4, .int .i64 i5, .int .i64 i6, .int .i64 i7, .bool gr, .slice A n c, .int .i64 i8, .string sd, .bool dn]) ([.int .i64 i0, .int .i64 i1, .int .i64 i2, .int .i64 i3, .int .i64 i4, .int .i64 i5, .int .i64 i6, .int .i64 i7, .bool gr, .slice A n c, .int .i64 i8, .string sd, .bool dn]) rfl (.agg ([.int .i64 i0, .int .i64 i1, .int .i64 i2, .int .i64 i3, .int .i64 i4, .int .i64 i5, .int .i64 i6, .int .i64 i7, .bool gr, .slice A n c, .int .i64 i8, .string sd, .bool dn] : List Value).toArray) rfl rfl (fits_agg _) (by simp) rfl size_gm rfl ?_; intro W9 hO hB hT; replace HO := hide hO; replace HES := hide (HES.out.touch hT (fun s hs => by rw [List.mem_singleton.1 hs]; exact HGW.out.2.1)); clear hO hB hT))
  refine bodyPost_ret (results_row_tmp Try.results74 _ _ gR 39 _ (0, 0) _ _ rfl rfl (HO.out.blk 0 rfl) Try.underlying39 rfl size_gm) rfl ?_
  exact ⟨A, n, c, 0, by rw [HD.out]; rfl, by rw [HD.out]; exact HES.out.lower HGW.out.2.2, HO.out.below⟩
 ·have hzb : (z == 0) = false := by simpa using h0
  have HD : Hid (dMsg s.data.toList = gm0) := hide (by unfold dMsg; rw [HMQ.out]; simp only [HZ.out]; rw [if_neg h0])
  clear h0
  go_wp2_with (first
   | ((with_reducible refine at_build 39 ?_); refine wpList_build rfl 39 #[] rfl [] (by simp) zgm.toArray (by kernel_rfl) ?_)
   | ((with_reducible refine at_store 39 (.tmp 2) ?_); refine wpList_store_own HO.out rfl 39 (.tmp 2) (.tmp 41) rfl 0 _ 0 _ _ zgm zgm rfl (.agg zgm.toArray) rfl rfl (fits_agg _) (by simp) rfl size_gm rfl ?_; intro W9 hO; replace HO := hide hO; clear hO))
  refine bodyPost_ret (results_row_tmp Try.results74 _ _ gR 39 _ (0, 0) _ _ rfl rfl (HO.out.blk 0 rfl) Try.underlying39 rfl size_gm) rfl ?_
  exact ⟨none, 0, 0, 11, by rw [HD.out]; rfl, by rw [HD.out]; exact EsAB.nil _ _, HO.out.below⟩
end
end
section
open List renaming getElem_toArray → qa, getElem_cons_zero → qb, getElem_cons_succ → qc, setIfInBounds_toArray → qd, set_cons_zero → qe, set_cons_succ → qf
open Go.ChangeShapes Go.WideShapes Go.ChangeAt Go.RowKit
theorem step_store_part {P : Program} {w : World} {ops : Array Oper} {op : Oper} {a : Act} {Q : Exit → Act → World → Prop} {K : Act → World → Prop} {E : Prop} (hgd : op.guard = none) (ty : TypeId) (x y : Operand) (ho : op.op = .store ty x y)
 (g o : Nat) (t : TypeId) (old vs : List Value) (v : Value) (hx : a.eval x = .pointer (some ⟨g, o, none⟩)) (hy : a.eval y = v) (hv : Fits v vs) (hb : Blk w g t old.toArray) (hs : o + vs.length ≤ old.length)
 (hi : (P.info? ty).map (·.size) = some vs.length) (h1 : vs.all (·.oneCell') = true)
 (h : ∀ w', Blk w' g t (old.take o ++ vs ++ old.drop (o + vs.length)).toArray → Touch [g] w w' → K (a.put op.dst undef) w') : if Region.wanted op (yielded ops a.tmps) = true then Oper.wp P op a w K Q else E := by
 have hw : Region.wanted op (yielded ops a.tmps) = true := by simp [Region.wanted, hgd]
 rw [if_pos hw]
 unfold Oper.wp execOp
 simp only [ho, hx, hy, Sem.run_bind, run_store_own hv hb hs hi h1, Result.andThen_ok]
 exact h _ (Blk.setCells vs o w _ hb (by simpa using hs)) (touch_setCells w g o _).1
theorem gmCs_one (m : GM) (A : Option Addr) (n c : Nat) : (gmCs m (.slice A n c)).all (·.oneCell') = true := rfl
set_option maxRecDepth 100000 in
set_option maxHeartbeats 4000000 in
theorem mread_c (rb : Nat) (k : Option Nat) (l : List UInt8) (c : Int) (b bp : Nat) (cs : List Value) (w : World) (h : Rd w rb k l c) (h1 : w.cell? ⟨bp, 0, none⟩ = some (at0 b)) (hbp : bp ≠ rb) (hbb : bp ≠ b) (hB : Blk w b 41 cs.toArray) (hgb : b ≠ rb) (hkg : k ≠ some b)
 (hk : ∀ y, k = some y → y < w.heap.size) (hl : l.length ≤ 1000000000) (ho : cs.length = 47) :
 Calls Try.prog 73 #[at0 rb, at0 bp] w fun e w' => e = .returned (.tuple #[]) ∧ Rd w' rb k (rText (l, c)).1.1 (rText (l, c)).1.2 ∧ ∃ A n cc, Blk w' b 41 (cs.take 34 ++ gmCs (dMsg (rText (l, c)).2) (.slice A n cc) ++ cs.drop (34 + (gmCs (dMsg (rText (l, c)).2) (.slice A n cc)).length)).toArray ∧ EsAB w' w.heap.size (.slice A n cc) (dMsg (rText (l, c)).2).l ∧ Touch [b, rb] w w' := by
 have HBL : Hid (b < w.heap.size) := hide hB.lt
 have H := hide h;have HB := hide hB;have HBP := hide hbp;have HBB := hide hbb;have HGB := hide hgb;have HKG := hide hkg;have HK := hide hk;have HL := hide hl;have HOF := hide ho;clear h hB hbp hbb hgb hkg hk hl ho
 go_enter Try.func73, Try.ntmps73
 go_wp2_with fail
 refine wp_region_held_drew (S := fun W => W.cell? ⟨bp, 0, none⟩ = some (at0 b)) (by kernel_rfl) (h1) (fun hS0 => ?_)
 replace H : Hid (Rd w.drew rb k l c) := hide H.out
 replace HB : Hid (Blk w.drew b _ cs.toArray) := hide HB.out
 replace HK : Hid (∀ y, k = some y → y < w.drew.heap.size) := hide HK.out
 refine tk 0 ?_;refine tk 1 ?_
 refine tr1 2 fun K hK => ?_
 go_simp
 refine (rdText_c rb k l c _ H.out (by have := HL.out; omega) (fun y hy => by have := HK.out y hy; exact this)).mono ?_
 rintro e w2 ⟨rfl, hr2, ht2⟩
 have HR2 := hide hr2;have HT2 := hide ht2
 have HB2 := hide (HB.out.touch ht2 (by simpa using HGB.out))
 have HSZ : Hid ((rText (l, c)).2.length ≤ 1000000000) := hide (Nat.le_trans (rText_both (l, c)).2 HL.out)
 obtain ⟨sd, hz⟩ : ∃ x : ByteArray, (⟨(rText (l, c)).2.toArray⟩ : ByteArray) = x := ⟨_, rfl⟩
 rw [hz]
 have HZ : Hid ((rText (l, c)).2 = sd.data.toList) := hide (by rw [← hz])
 have k2 : w2.cell? ⟨bp, 0, none⟩ = some (at0 b) := by rw [World.cell?_of_block (ht2.block bp (block_lt_of_cell h1) (by simpa using HBP.out))]; exact h1
 clear hz hr2 ht2
 refine hK.out _ _ (k2) (fun hS2 => ?_)
 clear hK K
 try simp only [Act.put, qa, qb, qc, qd, qe, qf]
 refine tr1 3 fun K hK => ?_
 go_simp
 refine (dmsg_c sd w2 (by have := HSZ.out; rw [HZ.out, Array.length_toList] at this; exact this)).mono ?_
 rintro e w3 ⟨A, n, cc, z, rfl, hes, hb3⟩
 have HES := hide (hes.lower HT2.out.size)
 have HB3 := hide (HB2.out.step hb3)
 have HR3 := hide (HR2.out.step hb3)
 have HT3 := hide (HT2.out.step hb3)
 have k3 : w3.cell? ⟨bp, 0, none⟩ = some (at0 b) := by rw [World.cell?_of_block (hb3.block bp (block_lt_of_cell k2))]; exact k2
 obtain ⟨gm, hgm⟩ : ∃ x, dMsg sd.data.toList = x := ⟨_, rfl⟩
 rw [hgm] at HES
 rw [hgm]
 have HGM : Hid (dMsg (rText (l, c)).2 = gm) := hide (by rw [HZ.out]; exact hgm)
 clear hgm hes hb3 hS2 k2
 refine hK.out _ _ (k3) (fun hS3 => ?_)
 clear hK K
 try simp only [Act.put, qa, qb, qc, qd, qe, qf]
 refine tk 4 ?_;refine tk 5 ?_;refine tk 6 ?_;refine tk 7 ?_;refine tk 8 ?_
 refine tr1 9 fun K hK => ?_
 refine step_store_part rfl 39 (.tmp 11) (.tmp 8) rfl b 34 41 cs (gmCs gm (.slice A n cc)) (.agg (gmCs gm (.slice A n cc)).toArray) rfl rfl (fits_agg _) HB3.out (by rw [HOF.out]; exact Nat.le_refl 47) size_gm (gmCs_one gm A n cc) ?_
 intro w4 hb4 ht4
 have HB4 := hide hb4;have HT4 := hide ht4
 have k4 : w4.cell? ⟨bp, 0, none⟩ = some (at0 b) := by rw [World.cell?_of_block (ht4.block bp (block_lt_of_cell k3) (by simpa using HBB.out))]; exact k3
 clear hb4 ht4
 refine hK.out _ _ (k4) (fun hS9 => ?_)
 clear hK K
 try simp only [Act.put, qa, qb, qc, qd, qe, qf]
 refine wpAnyH_done (by kernel_rfl) ?_ _
 clear hS0
 go_end0
 exact ⟨rfl, HR3.out.touch HT4.out (by simpa using Ne.symm HGB.out) (fun y hy hm => HKG.out (by rw [hy]; simpa using hm)), A, n, cc, by rw [HGM.out]; exact HB4.out, by rw [HGM.out]; exact HES.out.touch HT4.out (fun s hs => by rw [List.mem_singleton.1 hs]; exact HBL.out), ((Touch.refl [b, rb] w).drew.next HT3.out (fun s hs => .inl (List.mem_cons_of_mem _ hs))).next HT4.out (fun s hs => .inl (by simp only [List.mem_singleton] at hs; simp [hs]))⟩
end
section
open Go.ChangeShapes Go.WideShapes Go.ChangeAt Go.RowKit
def upd {α : Type} (f : Nat → α) (o : Nat) (x : α) : Nat → α := fun i => if i = o then x else f i
def updN {α : Type} (f : Nat → α) (ps : List (Nat × α)) : Nat → α := ps.foldl (fun f p => upd f p.1 p.2) f
theorem upd_same {α : Type} (f : Nat → α) (o : Nat) (x : α) : upd f o x o = x := if_pos rfl
theorem upd_other {α : Type} (f : Nat → α) {o i : Nat} (x : α) (h : i ≠ o) : upd f o x i = f i := if_neg h
theorem updN_other {α : Type} (ps : List (Nat × α)) (f : Nat → α) (i : Nat) (h : ∀ p ∈ ps, p.1 ≠ i) : updN f ps i = f i := by
 induction ps generalizing f with
 | nil => rfl
 | cons p r ih =>
  show updN (upd f p.1 p.2) r i = _
  rw [ih _ (fun q hq => h q (by simp [hq])), upd_other _ _ (Ne.symm (h p (by simp)))]
/-- A message in plain words. -/
structure PM where
 n : Nat → Int
 li : Nat → List Int
 body : ByteArray
 gr : Bool
 dn : Bool
 d : ByteArray
 l : List En
/-- Its cells; what they point to lies from A0 on. -/
structure MsgA (w : World) (A0 : Nat) (cs : List Value) (p : PM) : Prop where
 len : cs.length = 47
 N : ∀ o ∈ iOffs, cs[o]? = some (.int .i64 (p.n o)) ∧ I64 (p.n o)
 S : ∀ o ∈ lOffs, ∃ A n c, cs[o]? = some (.slice A n c) ∧ LiAB w A0 w.heap.size (.slice A n c) (p.li o)
 body : cs[5]? = some (.string p.body)
 gr : cs[42]? = some (.bool p.gr)
 dn : cs[46]? = some (.bool p.dn)
 d : cs[45]? = some (.string p.d)
 E : ∃ A n c, cs[43]? = some (.slice A n c) ∧ EsAB w A0 (.slice A n c) p.l
section
variable {w w' : World} {A0 : Nat} {cs : List Value} {p : PM}
theorem MsgA.touch {S : List Nat} (h : MsgA w A0 cs p) (k : Touch S w w') (hS : ∀ s ∈ S, s < A0) : MsgA w' A0 cs p :=
 ⟨h.len, h.N, fun o ho => by obtain ⟨A, n, c, e, hl⟩ := h.S o ho; exact ⟨A, n, c, e, hl.touch k (Nat.le_refl _) hS⟩, h.body, h.gr, h.dn, h.d, by obtain ⟨A, n, c, e, hl⟩ := h.E; exact ⟨A, n, c, e, hl.touch k hS⟩⟩
theorem set_ne {o i : Nat} {v : Value} (h : i ≠ o) : (cs.set o v)[i]? = cs[i]? := by rw [List.getElem?_set, if_neg (Ne.symm h)]
theorem set_eq {o : Nat} {v : Value} (h : o < cs.length) : (cs.set o v)[o]? = some v := by rw [List.getElem?_set, if_pos rfl, if_pos h]
theorem off_lt : ∀ o ∈ iOffs, o < 47 := by decide
theorem off_ltL : ∀ o ∈ lOffs, o < 47 := by decide
theorem off_ne : ∀ o ∈ iOffs, ∀ i ∈ lOffs, i ≠ o := by decide
theorem off_sp : ∀ o ∈ iOffs, o ≠ 5 ∧ o ≠ 42 ∧ o ≠ 46 ∧ o ≠ 45 ∧ o ≠ 43 := by decide
theorem off_spL : ∀ o ∈ lOffs, o ≠ 5 ∧ o ≠ 42 ∧ o ≠ 46 ∧ o ≠ 45 ∧ o ≠ 43 := by decide
theorem MsgA.num (h : MsgA w A0 cs p) {o : Nat} {x : Int} (ho : o ∈ iOffs) (hx : I64 x) : MsgA w A0 (cs.set o (.int .i64 x)) { p with n := upd p.n o x } := by
 have hlt : o < cs.length := by rw [h.len]; exact off_lt o ho
 have hne := off_sp o ho
 refine ⟨by rw [List.length_set]; exact h.len, fun i hi => ?_, fun i hi => ?_, ?_, ?_, ?_, ?_, ?_⟩
 ·by_cases e : i = o
  ·subst e
   exact ⟨by rw [set_eq hlt]; show _ = some (Value.int .i64 (upd p.n i x i)); rw [upd_same], by show I64 (upd p.n i x i); rw [upd_same]; exact hx⟩
  ·exact ⟨by rw [set_ne e]; show _ = some (Value.int .i64 (upd p.n o x i)); rw [upd_other _ _ e]; exact (h.N i hi).1, by show I64 (upd p.n o x i); rw [upd_other _ _ e]; exact (h.N i hi).2⟩
 ·rw [set_ne (off_ne o ho i hi)]; exact h.S i hi
 ·rw [set_ne (Ne.symm hne.1)]; exact h.body
 ·rw [set_ne (Ne.symm hne.2.1)]; exact h.gr
 ·rw [set_ne (Ne.symm hne.2.2.1)]; exact h.dn
 ·rw [set_ne (Ne.symm hne.2.2.2.1)]; exact h.d
 ·rw [set_ne (Ne.symm hne.2.2.2.2)]; exact h.E
theorem MsgA.nums (ps : List (Nat × Int)) (hp : ∀ q ∈ ps, q.1 ∈ iOffs ∧ I64 q.2) : ∀ {cs : List Value} {p : PM}, MsgA w A0 cs p → MsgA w A0 (setI cs ps) { p with n := updN p.n ps } := by
 induction ps with
 | nil => intro cs p h; exact h
 | cons q r ih =>
  intro cs p h
  exact ih (fun y hy => hp y (by simp [hy])) (h.num (hp q (by simp)).1 (hp q (by simp)).2)
theorem MsgA.list (h : MsgA w A0 cs p) {o : Nat} {A : Option Addr} {n c : Nat} {l : List Int} (ho : o ∈ lOffs) (hl : LiAB w A0 w.heap.size (.slice A n c) l) : MsgA w A0 (cs.set o (.slice A n c)) { p with li := upd p.li o l } := by
 have hlt : o < cs.length := by rw [h.len]; exact off_ltL o ho
 have hne := off_spL o ho
 refine ⟨by rw [List.length_set]; exact h.len, fun i hi => ?_, fun i hi => ?_, ?_, ?_, ?_, ?_, ?_⟩
 ·rw [set_ne (Ne.symm (off_ne i hi o ho))]; exact h.N i hi
 ·by_cases e : i = o
  ·subst e
   exact ⟨A, n, c, by rw [set_eq hlt], by show LiAB w A0 _ _ (upd p.li i l i); rw [upd_same]; exact hl⟩
  ·rw [set_ne e]
   show ∃ A n c, _ ∧ LiAB w A0 _ _ (upd p.li o l i)
   rw [upd_other _ _ e]; exact h.S i hi
 ·rw [set_ne (Ne.symm hne.1)]; exact h.body
 ·rw [set_ne (Ne.symm hne.2.1)]; exact h.gr
 ·rw [set_ne (Ne.symm hne.2.2.1)]; exact h.dn
 ·rw [set_ne (Ne.symm hne.2.2.2.1)]; exact h.d
 ·rw [set_ne (Ne.symm hne.2.2.2.2)]; exact h.E
theorem MsgA.lists : ∀ (ls : List Nat) (vs : List Value) (lss : List (List Int)), (∀ o ∈ ls, o ∈ lOffs) → VsAt w A0 vs lss → ∀ {cs : List Value} {p : PM}, MsgA w A0 cs p → MsgA w A0 (setV cs (ls.zip vs)) { p with li := updN p.li (ls.zip lss) }
 | [], _, _, _, _ => fun h => by simpa [setV, updN] using h
 | o :: ls, [], lss, _, hv => fun h => by
  have e : lss = [] := List.eq_nil_of_length_eq_zero (by rw [← hv.1]; rfl)
  subst e
  simpa [setV, updN] using h
 | o :: ls, v :: vs, [], _, hv => by cases hv.1
 | o :: ls, v :: vs, l :: lss, hls, hv => fun h => by
  have h0 := hv.2 0 (by simp) (by simp)
  simp only [List.getElem_cons_zero] at h0
  obtain ⟨A, n, c, rfl⟩ := h0.formN
  have ht : VsAt w A0 vs lss := ⟨by simpa using hv.1, fun i h1 h2 => by have := hv.2 (i + 1) (by simpa using h1) (by simpa using h2); simpa using this⟩
  exact MsgA.lists ls vs lss (fun x hx => hls x (by simp [hx])) ht (h.list (hls o (by simp)) h0)
theorem MsgA.text (h : MsgA w A0 cs p) (s : ByteArray) : MsgA w A0 (cs.set 5 (.string s)) { p with body := s } := by
 refine ⟨by rw [List.length_set]; exact h.len, fun i hi => ?_, fun i hi => ?_, ?_, ?_, ?_, ?_, ?_⟩
 ·rw [set_ne (by revert i; decide)]; exact h.N i hi
 ·rw [set_ne (by revert i; decide)]; exact h.S i hi
 ·exact set_eq (by rw [h.len]; decide)
 ·rw [set_ne (by decide)]; exact h.gr
 ·rw [set_ne (by decide)]; exact h.dn
 ·rw [set_ne (by decide)]; exact h.d
 ·rw [set_ne (by decide)]; exact h.E
def withG (p : PM) (g : GM) : PM := { p with n := updN p.n (mOffs.zip g.is), gr := g.gr, dn := g.dn, d := g.d, l := g.l }
theorem gm_at (h : cs.length = 47) (g : GM) (v : Value) (o : Nat) : (cs.take 34 ++ gmCs g v ++ cs.drop (34 + (gmCs g v).length))[o]? = if o < 34 then cs[o]? else (gmCs g v)[o - 34]? := by
 have h2 : (gmCs g v).length = 13 := rfl
 have h3 : cs.drop (34 + (gmCs g v).length) = [] := List.drop_eq_nil_of_le (by rw [h, h2]; exact Nat.le_refl _)
 rw [h3, List.append_nil]
 by_cases ho : o < 34
 ·rw [if_pos ho, List.getElem?_append_left (by rw [List.length_take, h]; omega), List.getElem?_take, if_pos ho]
 ·rw [if_neg ho, List.getElem?_append_right (by rw [List.length_take, h]; omega), List.length_take, h]
  rfl
theorem MsgA.gm (h : MsgA w A0 cs p) (g : GM) (h9 : g.is.length = 9) (hi : ∀ x ∈ g.is, I64 x) {A : Option Addr} {n c : Nat} (he : EsAB w A0 (.slice A n c) g.l) : MsgA w A0 (cs.take 34 ++ gmCs g (.slice A n c) ++ cs.drop (34 + (gmCs g (.slice A n c)).length)) (withG p g) := by
 obtain ⟨i0, i1, i2, i3, i4, i5, i6, i7, i8, hg⟩ := list9 h9
 refine ⟨?_, fun o ho => ?_, fun o ho => ?_, ?_, ?_, ?_, ?_, ?_⟩
 ·rw [List.length_append, List.length_append, List.length_take, List.length_drop, h.len]; rfl
 ·rw [gm_at h.len]
  by_cases hm : o ∈ mOffs
  ·have hi' : ∀ x ∈ [i0, i1, i2, i3, i4, i5, i6, i7, i8], I64 x := hg ▸ hi
   have hcs : gmCs g (.slice A n c) = [.int .i64 i0, .int .i64 i1, .int .i64 i2, .int .i64 i3, .int .i64 i4, .int .i64 i5, .int .i64 i6, .int .i64 i7, .bool g.gr, .slice A n c, .int .i64 i8, .string g.d, .bool g.dn] := by unfold gmCs; rw [hg]; rfl
   rw [hcs]
   have hu : (withG p g).n = updN p.n (mOffs.zip [i0, i1, i2, i3, i4, i5, i6, i7, i8]) := by unfold withG; rw [hg]
   rw [hu]
   simp only [mOffs, List.mem_cons, List.not_mem_nil, or_false] at hm
   rcases hm with rfl | rfl | rfl | rfl | rfl | rfl | rfl | rfl | rfl <;> exact ⟨rfl, hi' _ (by simp [updN, upd, mOffs])⟩
  ·have h34 : o < 34 := by revert o; decide
   have hu : (withG p g).n o = p.n o := updN_other _ _ _ (fun q hq e => hm (by
    obtain ⟨a, b⟩ := q
    have := (List.of_mem_zip hq).1
    exact e ▸ this))
   rw [if_pos h34, hu]
   exact h.N o ho
 ·rw [gm_at h.len, if_pos (by revert o; decide)]; exact h.S o ho
 ·rw [gm_at h.len, if_pos (by decide)]; exact h.body
 ·rw [gm_at h.len, if_neg (by decide)]; rfl
 ·rw [gm_at h.len, if_neg (by decide)]; rfl
 ·rw [gm_at h.len, if_neg (by decide)]; rfl
 ·exact ⟨A, n, c, by rw [gm_at h.len, if_neg (by decide)]; rfl, he⟩
end
/-! ### what each field reads -/
def rNumF (o : Nat) (p : PM) (r : RS) : PM × RS := ({ p with n := upd p.n o (rInt r).2 }, (rInt r).1)
def rPart (ns ls : List Nat) (p : PM) (r : RS) : PM × RS :=
 ({ p with n := updN p.n (ns.zip (rList ns.length r).2), li := updN p.li (ls.zip (rLists ls.length (rList ns.length r).1).2) }, (rLists ls.length (rList ns.length r).1).1)
def rUnit (p : PM) (r : RS) : PM × RS := ({ p with n := upd (updN p.n ([13, 14, 15].zip (rList 3 r).2)) 16 (rInt (rList 3 r).1).2 }, (rInt (rList 3 r).1).1)
def rF (k : Nat) (p : PM) (r : RS) : PM × RS :=
 match k with
 | 0 => rNumF 1 p r
 | 1 => rNumF 2 p r
 | 2 => rNumF 3 p r
 | 3 => rNumF 4 p r
 | 4 => rNumF 6 p r
 | 5 => rNumF 7 p r
 | 6 => rNumF 8 p r
 | 7 => ({ p with body := ⟨(rText r).2.toArray⟩ }, (rText r).1)
 | 8 => rNumF 17 p r
 | 9 => rPart [9, 10] [11, 12] p r
 | 10 => rUnit p r
 | 11 => rPart [] [33] p r
 | 12 => rPart [18, 19, 20, 21, 22, 23, 24, 25] [26, 27, 28, 29, 30, 31, 32] p r
 | _ => (withG p (dMsg (rText r).2), (rText r).1)
theorem dMsg_is (s : List UInt8) : (dMsg s).is.length = 9 ∧ ∀ x ∈ (dMsg s).is, I64 x := by
 unfold dMsg
 split
 ·exact ⟨rList_size 9 _, rList_i64 9 _⟩
 ·exact ⟨rfl, fun x hx => by simp only [gm0, List.mem_cons, List.not_mem_nil, or_false, or_self] at hx; subst hx; exact ⟨by decide, by decide⟩⟩
/-- What a field's read leaves. -/
def GotF (w : World) (A0 : Nat) (L : LB) (b bm rb : Nat) (kk : Option Nat) (x : PM × RS) (e : Ending) (w' : World) : Prop :=
 e = .returned (.tuple #[]) ∧ ∃ cs', FB w' A0 L b bm cs' ∧ MsgA w' A0 cs' x.1 ∧ Rd w' rb kk x.2.1 x.2.2 ∧ Touch [b, rb] w w'
theorem FB.turn {w w' : World} {A0 : Nat} {L : LB} {b bm : Nat} {cs cs' : List Value} {S : List Nat} (h : FB w A0 L b bm cs) (k : Touch S w w') (hS : ∀ e ∈ L, e.1 ∉ S) (hB : Blk w' b 41 cs'.toArray) : FB w' A0 L b bm cs' :=
 ⟨fun e he => ⟨(h.blks e he).1, (h.blks e he).2.touch k (hS e he)⟩, h.bm, h.msg.1, hB⟩
theorem unit_off : ∀ x ∈ [13, 14, 15], x ∈ iOffs := by decide
theorem ent_n2 : Ent 89 := enters Try.func89 (by kernel_rfl) (by kernel_rfl)
theorem ent_p2 : Ent 84 := enters Try.func84 (by kernel_rfl) (by kernel_rfl)
theorem ent_f2 : Ent 54 := enters Try.func54 (by kernel_rfl) (by kernel_rfl)
theorem ent_f7 : Ent 63 := enters Try.func63 (by kernel_rfl) (by kernel_rfl)
theorem ent_f11 : Ent 68 := enters Try.func68 (by kernel_rfl) (by kernel_rfl)
theorem ent_f14 : Ent 73 := enters Try.func73 (by kernel_rfl) (by kernel_rfl)
section
attribute [local irreducible] rList rGL rText rCnt rBool rEns rInt rLists rInts dMsg
variable {w : World} {A0 : Nat} {L : LB} {b bm rb : Nat} {kk : Option Nat} {cs : List Value} {p : PM} {r : RS}
/-- What holds ahead of a field's read. -/
structure PreF (w : World) (A0 : Nat) (L : LB) (b bm rb : Nat) (kk : Option Nat) (cs : List Value) (p : PM) (r : RS) : Prop where
 fb : FB w A0 L b bm cs
 ms : MsgA w A0 cs p
 rd : Rd w rb kk r.1 r.2
 ne : ∀ e ∈ L, e.1 ≠ b ∧ e.1 ≠ rb
 br : b ≠ rb
 kb : kk ≠ some b
 kA : ∀ y, kk = some y → y < A0
 rA : rb < A0
 sz : A0 ≤ w.heap.size
 len : r.1.length ≤ 1000000000
theorem PreF.kw (h : PreF w A0 L b bm rb kk cs p r) : ∀ y, kk = some y → y < w.heap.size := fun y hy => Nat.lt_of_lt_of_le (h.kA y hy) h.sz
theorem PreF.low (h : PreF w A0 L b bm rb kk cs p r) : ∀ s ∈ [b, rb], s < A0 := fun s hs => by
 simp only [List.mem_cons, List.not_mem_nil, or_false] at hs
 rcases hs with rfl | rfl
 ·exact h.fb.msg.1
 ·exact h.rA
theorem PreF.nin (h : PreF w A0 L b bm rb kk cs p r) : ∀ e ∈ L, e.1 ∉ [b, rb] := fun e he => by
 simp only [List.mem_cons, List.not_mem_nil, or_false, not_or]; exact h.ne e he
theorem num_r (h : PreF w A0 L b bm rb kk cs p r) {o bp : Nat} (ho : o ∈ iOffs) (hbp : (bp, 121, [.pointer (some ⟨b, o, none⟩)]) ∈ L) : Calls Try.prog 89 #[at0 rb, at0 bp] w (GotF w A0 L b bm rb kk (rNumF o p r)) := by
 have hn := h.ne _ hbp
 refine (nread_c rb kk r.1 r.2 b bp o _ cs w h.rd (h.fb.box hbp) hn.2 hn.1 h.fb.msg.2 h.br h.kb h.kw h.len (by rw [h.ms.len]; exact off_lt o ho)).mono ?_
 rintro e w' ⟨rfl, h1, h2, h3⟩
 exact ⟨rfl, _, h.fb.turn h3 h.nin h2, (h.ms.touch h3 h.low).num ho (rInt_i64 r), h1, h3⟩
theorem ptr_ne {t : TypeId} {offs : List Nat} {v : Value} (hn : ∀ e ∈ L, e.1 ≠ b ∧ e.1 ≠ rb) (h : PtrL L t b offs v) : ∀ q, v.ownBlock = some q → q ≠ b ∧ q ≠ rb := by
 intro q hq
 rcases h with ⟨_, rfl⟩ | ⟨g, rfl, hm⟩
 ·cases hq
 ·injection hq with hq
  subst hq
  exact hn _ hm
theorem part_r (h : PreF w A0 L b bm rb kk cs p r) {ns ls : List Nat} {bn bl : Nat} (hp : PartB L b ns ls bn bl) (h1 : ns.length ≤ 100) (h2 : ls.length ≤ 100) (hn : ∀ o ∈ ns, o ∈ iOffs) (hl : ∀ o ∈ ls, o ∈ lOffs) : Calls Try.prog 84 #[at0 rb, at0 bn, at0 bl] w (GotF w A0 L b bm rb kk (rPart ns ls p r)) := by
 obtain ⟨vn, vl, q1, q2, q3, q4⟩ := hp
 refine (pread_c rb kk r.1 r.2 b _ cs ns ls bn bl vn vl A0 w h.rd (h.fb.box q1) (h.fb.box q2) (q3.ptrs h.fb.all h1) (q4.ptrs h.fb.all h2) (ptr_ne h.ne q3) (ptr_ne h.ne q4) (h.ne _ q2) h.fb.msg.2 h.br h.kb h.kw h.len (fun o ho => by rw [h.ms.len]; exact off_lt o (hn o ho)) (fun o ho => by rw [h.ms.len]; exact off_ltL o (hl o ho)) ⟨h.fb.msg.1, h.rA, h.sz⟩).mono ?_
 rintro e w' ⟨rfl, vs, hv, h3, h4, h5⟩
 refine ⟨rfl, _, h.fb.turn h5 h.nin h4, ?_, h3, h5⟩
 have m1 := (h.ms.touch h5 h.low).nums (ns.zip (rList ns.length r).2) (fun q hq => by
  obtain ⟨x, y⟩ := q
  have := List.of_mem_zip hq
  exact ⟨hn _ this.1, rList_i64 _ _ _ this.2⟩)
 exact MsgA.lists ls vs _ hl hv m1
theorem field_r {k : Nat} {v : Value} (hk : k < 14) (hv : FValI L b bm k v) (h : PreF w A0 L b bm rb kk cs p r) :
 ∃ fw fr fz fo cw cr cz co, v = .agg (fv fw fr fz fo cw cr cz co).toArray ∧ Ent fr ∧ Calls Try.prog fr (#[at0 rb] ++ cr.toArray) w (GotF w A0 L b bm rb kk (rF k p r)) := by
 have hbm := h.fb.box h.fb.bm;have hbn := h.ne _ h.fb.bm
 have num : ∀ (o : Nat) (lo hi : Int), o ∈ iOffs → NumF L b o lo hi v → ∃ fw fr fz fo cw cr cz co, v = .agg (fv fw fr fz fo cw cr cz co).toArray ∧ Ent fr ∧ Calls Try.prog fr (#[at0 rb] ++ cr.toArray) w (GotF w A0 L b bm rb kk (rNumF o p r)) := fun o lo hi ho hf => by
  obtain ⟨bp, bl, bh, rfl, h1, h2, h3⟩ := hf
  exact ⟨_, _, _, _, _, _, _, _, rfl, ent_n2, num_r h ho h1⟩
 have : k = 0 ∨ k = 1 ∨ k = 2 ∨ k = 3 ∨ k = 4 ∨ k = 5 ∨ k = 6 ∨ k = 7 ∨ k = 8 ∨ k = 9 ∨ k = 10 ∨ k = 11 ∨ k = 12 ∨ k = 13 := by omega
 rcases this with rfl | rfl | rfl | rfl | rfl | rfl | rfl | rfl | rfl | rfl | rfl | rfl | rfl | rfl
 ·exact num 1 0 8 (by decide) hv
 ·exact num 2 1 8 (by decide) hv
 ·exact num 3 1 9223372036854775807 (by decide) hv
 ·exact num 4 0 17 (by decide) hv
 ·exact num 6 0 9223372036854775807 (by decide) hv
 ·exact num 7 1 9223372036854775807 (by decide) hv
 ·exact num 8 1 9223372036854775807 (by decide) hv
 ·refine ⟨_, _, _, _, _, _, _, _, hv, ent_f7, ?_⟩
  refine (bread_c rb kk r.1 r.2 b bm cs w h.rd hbm hbn.2 hbn.1 h.fb.msg.2 h.br h.kb h.kw h.len (by rw [h.ms.len]; decide)).mono ?_
  rintro e w' ⟨rfl, h1, h2, h3⟩
  exact ⟨rfl, _, h.fb.turn h3 h.nin h2, (h.ms.touch h3 h.low).text _, h1, h3⟩
 ·refine ⟨_, _, _, _, _, _, _, _, hv, ent_f11, ?_⟩
  refine (vread_c rb kk r.1 r.2 b bm cs w h.rd hbm hbn.2 hbn.1 h.fb.msg.2 h.br h.kb h.kw h.len (by rw [h.ms.len]; decide)).mono ?_
  rintro e w' ⟨rfl, h1, h2, h3⟩
  exact ⟨rfl, _, h.fb.turn h3 h.nin h2, (h.ms.touch h3 h.low).num (by decide) (rInt_i64 r), h1, h3⟩
 ·obtain ⟨bn, bl, rfl, hp⟩ := hv
  exact ⟨_, _, _, _, _, _, _, _, rfl, ent_p2, part_r h hp (by decide) (by decide) (by decide) (by decide)⟩
 ·obtain ⟨b7, b8, b9, bn, bl, rfl, h7, h8, h9, vn, vl, q1, q2, q3, q4⟩ := hv
  refine ⟨_, _, _, _, _, _, _, _, rfl, ent_f2, ?_⟩
  refine (uread_c rb kk r.1 r.2 b bm b8 bn bl vn vl cs A0 w h.rd (h.fb.box h8) hbm (h.fb.box q1) (h.fb.box q2) (q3.ptrs h.fb.all (by decide)) (q4.ptrs h.fb.all (by decide)) (ptr_ne h.ne q3) (ptr_ne h.ne q4) (h.ne _ q2) hbn h.fb.msg.2 h.br h.kb h.kw h.len h.ms.len ⟨h.fb.msg.1, h.rA, h.sz⟩).mono ?_
  rintro e w' ⟨rfl, h3, h4, h5⟩
  refine ⟨rfl, _, h.fb.turn h5 h.nin h4, ?_, h3, h5⟩
  have m1 := (h.ms.touch h5 h.low).nums ([13, 14, 15].zip (rList 3 r).2) (fun q hq => by
   obtain ⟨x, y⟩ := q
   have := List.of_mem_zip hq
   exact ⟨unit_off x this.1, rList_i64 _ _ _ this.2⟩)
  exact m1.num (by decide) (rInt_i64 _)
 ·obtain ⟨bn, bl, rfl, hp⟩ := hv
  exact ⟨_, _, _, _, _, _, _, _, rfl, ent_p2, part_r h hp (by decide) (by decide) (by decide) (by decide)⟩
 ·obtain ⟨bn, bl, rfl, hp⟩ := hv
  exact ⟨_, _, _, _, _, _, _, _, rfl, ent_p2, part_r h hp (by decide) (by decide) (by decide) (by decide)⟩
 ·refine ⟨_, _, _, _, _, _, _, _, hv, ent_f14, ?_⟩
  refine (mread_c rb kk r.1 r.2 b bm cs w h.rd hbm hbn.2 hbn.1 h.fb.msg.2 h.br h.kb h.kw h.len h.ms.len).mono ?_
  rintro e w' ⟨rfl, h1, A, n, cc, h2, hes, h3⟩
  exact ⟨rfl, _, h.fb.turn h3 h.nin h2, (h.ms.touch h3 h.low).gm _ (dMsg_is _).1 (dMsg_is _).2 (hes.lower h.sz), h1, h3⟩
end
end
end Go.Proofs.Ytpbgelhjbfckcaa
