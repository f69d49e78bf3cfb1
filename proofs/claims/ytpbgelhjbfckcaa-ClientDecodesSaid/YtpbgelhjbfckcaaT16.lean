/- The message of a group is read. -/
import Derived.Test.YtpbgelhjbfckcaaT15
import Derived.Lib.ConvBytes
namespace Go.Proofs.Ytpbgelhjbfckcaa
open Go.ChangeShapes Go.WideShapes Go.ChangeAt Go.RowKit
set_option linter.unusedVariables false
set_option linter.unusedSimpArgs false

/-! ### a string's bytes -/
theorem bs_bytesWorld (w : World) (s : ByteArray) (hs : s.size ≤ 1000000000) : Bs (Lib.bytesWorld w 5 s) (.slice (some ⟨w.heap.size, 0, none⟩) s.size (grownCap w s.size 0 5)) s.data.toList := by
  have hl : s.data.toList.length = s.size := by rw [Array.length_toList]; rfl
  refine ⟨_, _, by rw [hl], by rw [hl]; exact grownCap_ge _ _ _ _, grownCap_le_maxLen _ _ _ _ (by unfold maxLen; omega), fun h0 => ⟨w.heap.size, 0, rfl, by rw [Lib.bytesWorld_size]; omega, fun j hj => ?_⟩⟩
  rw [hl] at hj
  rw [Nat.zero_add, Lib.bytesWorld_cell w 5 s j hj]
  simp only [bv, u8]
  rw [List.getD_eq_getElem?_getD, List.getElem?_eq_getElem (by rw [hl]; exact hj)]
  rfl
theorem below_bytesWorld (w : World) (s : ByteArray) : Below w.heap.size w (Lib.bytesWorld w 5 s) :=
  ⟨rfl, rfl, rfl, by rw [Lib.bytesWorld_size]; omega, fun k hk => Lib.bytesWorld_at_old w _ s k hk⟩
theorem at_convert {P : Program} {w : World} {ops : Array Oper} {rest : List Oper} {d : Option Tmp} {ty : TypeId} {p : String} {af : Array Edge} {g : Option (Nat × Bool)} {a : Act} {Q : Exit → Act → World → Prop} (s t : TypeId) (x : Operand) (h : wpList P ops Q ({ dst := d, op := .convert s t x, type := ty, pos := p, after := af, guard := g } :: rest) a w) : wpList P ops Q ({ dst := d, op := .convert s t x, type := ty, pos := p, after := af, guard := g } :: rest) a w := h
theorem wpList_bytes {ops : Array Oper} {rest : List Oper} {o : Oper} {a : Act} {w : World} {Q : Exit → Act → World → Prop} (hgd : o.guard = none) (x : Operand) (ho : o.op = .convert 9 102 x) (s : ByteArray) (hx : a.eval x = .string s) (hs : s.size ≤ 1000000000)
    (h : ∀ v w', Bs w' v s.data.toList → Below w.heap.size w w' → wpList Try.prog ops Q rest (a.put o.dst v) w') : wpList Try.prog ops Q (o :: rest) a w := by
  refine wpList_plain hgd fun K hK => ?_
  have hr := Lib.run_convert_string_bytes (P := Try.prog) w 9 102 5 s Try.underlying9 Try.underlying102 Try.underlying5
  unfold Oper.wp execOp
  simp only [ho, hx, Sem.run_bind, hr, Result.andThen_ok]
  exact hK _ _ (h _ _ (bs_bytesWorld w s hs) (below_bytesWorld w s))

/-! ### blocks of one's own, and what others turn -/
theorem Own.putN {w0 W W' : World} {S T : List Nat} {L : List (Nat × TypeId × List Value)} (h : Own w0 S L W) (i : Nat) {b : Nat} {t : TypeId} {cs new : List Value} (hi : L[i]? = some (b, t, cs)) (hx : Blk W' b t new.toArray) (ht : Touch T W W') (hT : ∀ s ∈ T, s = b ∨ ((s ∈ S ∨ w0.heap.size ≤ s) ∧ s ∉ L.map (·.1))) : Own w0 S (L.set i (b, t, new)) W' := by
  have hm : (L.set i (b, t, new)).map (·.1) = L.map (·.1) := by
    rw [List.map_set]
    refine List.ext_getElem? fun j => ?_
    rw [List.getElem?_set]
    by_cases hj : i = j
    · subst hj
      have hl := (List.getElem?_eq_some_iff.1 hi).1
      rw [if_pos rfl, if_pos (by simpa using hl), List.getElem?_map, hi]; rfl
    · rw [if_neg hj]
  have hnew := h.new i hi
  refine ⟨fun e he => ?_, hm ▸ h.apart, h.touch.next ht (fun x hx' => ?_), h.old⟩
  · obtain ⟨j, hj⟩ := List.getElem?_of_mem he
    rw [List.getElem?_set] at hj
    by_cases hij : i = j
    · subst hij
      have hl := (List.getElem?_eq_some_iff.1 hi).1
      rw [if_pos rfl, if_pos hl] at hj
      injection hj with hj
      subst hj
      exact ⟨hx, hnew⟩
    · rw [if_neg hij] at hj
      have hmem := List.mem_of_getElem? hj
      refine ⟨(h.has e hmem).1.touch ht ?_, (h.has e hmem).2⟩
      intro hmt
      rcases hT _ hmt with e1 | e1
      · have hnd := List.pairwise_iff_getElem.1 h.apart
        have hl1 := (List.getElem?_eq_some_iff.1 hi).1
        have hl2 := (List.getElem?_eq_some_iff.1 hj).1
        have q1 : (L.map (·.1))[i]'(by simpa using hl1) = b := by rw [List.getElem_map, (List.getElem?_eq_some_iff.1 hi).2]
        have q2 : (L.map (·.1))[j]'(by simpa using hl2) = b := by rw [List.getElem_map, (List.getElem?_eq_some_iff.1 hj).2]; exact e1
        rcases Nat.lt_or_gt_of_ne hij with h1 | h1
        · exact hnd i j (by simpa using hl1) (by simpa using hl2) h1 (q1.trans q2.symm)
        · exact hnd j i (by simpa using hl2) (by simpa using hl1) h1 (q2.trans q1.symm)
      · exact e1.2 (List.mem_map.2 ⟨e, hmem, rfl⟩)
  · rcases hT x hx' with e1 | e1
    · exact .inr (e1 ▸ hnew)
    · exact e1.1
theorem OwE.formN {w : World} {base : Nat} {v : Value} {css : List (List Value)} (h : OwE w base v css) : ∃ A n c, v = .slice A n c := by
  obtain ⟨_, ⟨rfl, _⟩ | ⟨g, cap, cur, rfl, _⟩⟩ := h <;> exact ⟨_, _, _, rfl⟩

theorem OwE.lower {w : World} {b b' : Nat} {v : Value} {css : List (List Value)} (h : OwE w b v css) (hb : b' ≤ b) : OwE w b' v css := by
  obtain ⟨hl, h1 | ⟨g, cap, cur, rfl, hb2, r⟩⟩ := h
  · exact ⟨hl, .inl h1⟩
  · exact ⟨hl, .inr ⟨g, cap, cur, rfl, Nat.le_trans hb hb2, r⟩⟩
theorem EnAB.lower {w : World} {A0 A1 : Nat} {cs : List Value} {x : En} (h : EnAB w A0 cs x) (hA : A1 ≤ A0) : EnAB w A1 cs x := by
  obtain ⟨vf, vt, vo, vn, vl, e, h1, h2, h3, h4, h5⟩ := h
  exact ⟨vf, vt, vo, vn, vl, e, h1.lower hA, h2.lower hA, h3.lower hA, h4.lower hA, h5.lower hA⟩
theorem EnsAt.lower {w : World} {A0 A1 : Nat} {css : List (List Value)} {l : List En} (h : EnsAt w A0 css l) (hA : A1 ≤ A0) : EnsAt w A1 css l := ⟨h.1, fun i h1 h2 => (h.2 i h1 h2).lower hA⟩

/-! ### the plain reader -/
structure GM where
  is : List Int
  gr : Bool
  dn : Bool
  d : ByteArray
  l : List En
def gm0 : GM := ⟨[0, 0, 0, 0, 0, 0, 0, 0, 0], false, false, ⟨#[]⟩, []⟩
def rMsg (s : List UInt8) : RS × GM :=
  let a := rList 9 (s, 0)
  let g := rBool a.1
  let d := rBool g.1
  let t := rText d.1
  let n := rCnt t.1
  let e := rEns n.2 n.1
  (e.1, ⟨a.2, g.2, d.2, ⟨t.2.toArray⟩, e.2⟩)
def dMsg (s : List UInt8) : GM := if rEnd (rMsg s).1 = 0 then (rMsg s).2 else gm0
/-- The cells of a group's message; v is the slice of its entries. -/
def gmCs (m : GM) (v : Value) : List Value := [.int .i64 (m.is.getD 0 0), .int .i64 (m.is.getD 1 0), .int .i64 (m.is.getD 2 0), .int .i64 (m.is.getD 3 0), .int .i64 (m.is.getD 4 0), .int .i64 (m.is.getD 5 0), .int .i64 (m.is.getD 6 0), .int .i64 (m.is.getD 7 0), .bool m.gr, v, .int .i64 (m.is.getD 8 0), .string m.d, .bool m.dn]
/-- The message's entries lie from A0 on. -/
def EsAB (w : World) (A0 : Nat) (v : Value) (l : List En) : Prop := ∃ css, OwE w A0 v css ∧ EnsAt w A0 css l
theorem EsAB.touch {w w' : World} {A0 : Nat} {v : Value} {l : List En} {S : List Nat} (h : EsAB w A0 v l) (k : Touch S w w') (hS : ∀ s ∈ S, s < A0) : EsAB w' A0 v l := by
  obtain ⟨css, h1, h2⟩ := h
  exact ⟨css, h1.touch k (fun j hj hm => by have := hS _ hm; have := (h1.lt j hj).1; omega), h2.turn k (fun s hs => .inl (hS s hs))⟩
theorem EsAB.lower {w : World} {A0 A1 : Nat} {v : Value} {l : List En} (h : EsAB w A0 v l) (hA : A1 ≤ A0) : EsAB w A1 v l := by
  obtain ⟨css, h1, h2⟩ := h
  exact ⟨css, h1.lower hA, h2.lower hA⟩
theorem EsAB.nil (w : World) (A0 : Nat) : EsAB w A0 (.slice none 0 0) [] := ⟨[], OwE.nil _ _, EnsAt.nil _ _⟩
def DMsgR (w : World) (s : List UInt8) (e : Ending) (w' : World) : Prop := ∃ A n c z, e = .returned (.tuple #[.agg (gmCs (dMsg s) (.slice A n c)).toArray, .int .i64 z]) ∧ EsAB w' w.heap.size (.slice A n c) (dMsg s).l ∧ Below w.heap.size w w'
theorem list9 {l : List Int} (h : l.length = 9) : ∃ a b c d e f g i j, l = [a, b, c, d, e, f, g, i, j] := by
  match l, h with
  | [a, b, c, d, e, f, g, i, j], _ => exact ⟨a, b, c, d, e, f, g, i, j, rfl⟩
abbrev zgm : List Value := [zi, zi, zi, zi, zi, zi, zi, zi, .bool false, zl, zi, zs, .bool false]
theorem info_gm0 : (Try.prog.info? 39).map (·.zero) = some (some (.agg zgm.toArray)) := by kernel_rfl
theorem info_rd0 : (Try.prog.info? 157).map (·.zero) = some (some (.agg ([.pointer none] : List Value).toArray)) := by kernel_rfl
section
attribute [local irreducible] rList rGL rText rCnt rBool rEns rInt
set_option maxRecDepth 100000 in
set_option maxHeartbeats 8000000 in
theorem dmsg_c (s : ByteArray) (w : World) (hs : s.size ≤ 1000000000) : Calls Try.prog 74 #[.string s] w (DMsgR w s.data.toList) := by
  have HL : Hid (s.data.toList.length ≤ 1000000000) := hide (by rw [Array.length_toList]; exact hs)
  have HS := hide hs
  have HO := hide (Own.nil w [] (by simp))
  clear hs
  go_enter Try.func74, Try.ntmps74
  go_wp2_with ((with_reducible refine at_alloc 39 ?_); refine wpList_alloc_own HO.out rfl 39 rfl zgm info_gm0 ?_; intro WA gR hO; replace HO := hide hO; clear hO; refine Hid.out ?_)
  refine hide ?_
  go_wp2_with (first
    | ((with_reducible refine at_alloc 39 ?_); refine wpList_alloc_own HO.out rfl 39 rfl zgm info_gm0 ?_; intro WB gM hO; replace HO := hide hO; clear hO)
    | ((with_reducible refine at_convert 9 102 (.tmp 6) ?_); refine wpList_bytes rfl (.tmp 6) rfl s rfl HS.out ?_; intro vb WC hbs hbl; have HBS := hide hbs; replace HO := hide (HO.out.step hbl); clear hbs hbl))
  refine (newReader_c _ _ WC HBS.out (by have := HL.out; omega)).mono ?_
  rintro e w2 ⟨b, k, rfl, hr, hbl, hbn, hkn⟩
  have HR := hide hr
  have HR2 := hide hr
  have hgR := (HO.out.blk 0 rfl).lt
  have hgM := (HO.out.blk 1 rfl).lt
  have HAP : Hid (w.heap.size ≤ b ∧ b ≠ gR ∧ b ≠ gM ∧ (∀ y, k = some y → w.heap.size ≤ y ∧ y < w2.heap.size ∧ y ≠ gR ∧ y ≠ gM)) := hide ⟨Nat.le_trans HO.out.size hbn, by omega, by omega, fun y hy => by have := hkn y hy; have := HO.out.size; exact ⟨by omega, by omega, by omega, by omega⟩⟩
  replace HO := hide (HO.out.step hbl)
  have HGM : Hid (gM < w2.heap.size) := hide (HO.out.blk 1 rfl).lt
  clear hr hbl hbn hkn hgR hgM HBS
  have HP := hide (Own.nil w2 [] (by simp))
  go_wp2_with (first
    | ((with_reducible refine at_build 157 ?_); refine wpList_build rfl 157 _ rfl ([(0, at0 b)]) (by first | (simp [Act.eval]; done) | (simp [Act.eval]; rfl)) ([at0 b] : List Value).toArray (by kernel_rfl) ?_)
    | ((with_reducible refine at_alloc 157 ?_); refine wpList_alloc_own HP.out rfl 157 rfl [.pointer none] info_rd0 ?_; intro WD q hO; replace HP := hide hO; clear hO)
    | ((with_reducible refine at_store 157 (.tmp 5) ?_); refine wpList_store_own HP.out rfl 157 (.tmp 5) (.tmp 9) rfl 0 _ 0 _ _ [at0 b] [at0 b] rfl (.agg ([at0 b] : List Value).toArray) rfl rfl (fits_agg _) (by simp) rfl (by kernel_rfl) rfl ?_; intro WE hO; replace HP := hide hO; clear hO)
    | ((with_reducible refine at_load 157 (.tmp 5) ?_); refine wpList_load_own HP.out rfl 157 (.tmp 5) rfl 0 _ 0 1 _ _ [at0 b] _ rfl rfl rfl Try.underlying157 rfl (by kernel_rfl) ?_)
    | ((with_reducible refine at_sliceV 125 9 _ ?_); refine wpList_slice_ownV HP.out rfl 125 121 _ ([.pointer (some ⟨gM, 0, none⟩), .pointer (some ⟨gM, 1, none⟩), .pointer (some ⟨gM, 2, none⟩), .pointer (some ⟨gM, 3, none⟩), .pointer (some ⟨gM, 4, none⟩), .pointer (some ⟨gM, 5, none⟩), .pointer (some ⟨gM, 6, none⟩), .pointer (some ⟨gM, 7, none⟩), .pointer (some ⟨gM, 10, none⟩)]) rfl (by simp [Act.eval]) Try.underlying125 (by kernel_rfl) (by kernel_rfl) (by simp [Value.cells]) (by simp) (by simp) ?_; intro WF p hO; replace HP := hide hO; clear hO))
  have HB1 := HP.out.below
  replace HO := hide (HO.out.step HB1)
  replace HR := hide (HR.out.step HB1)
  have hp2 := HP.out.new 1 rfl
  have hbw : b < w2.heap.size := HR2.out.lt
  have hgm : gM < w2.heap.size := HGM.out
  have hsz1 := HP.out.size
  refine (rints_c b k _ 0 gM 39 zgm [0, 1, 2, 3, 4, 5, 6, 7, 10] (.slice (some ⟨p, 0, none⟩) 9 9) WF HR.out (blk_ptrs (ns := [0, 1, 2, 3, 4, 5, 6, 7, 10]) (HP.out.blk 1 rfl) (by decide)) (HO.out.blk 1 rfl) (fun y hy => by injection hy with hy; have e1 : p = y := hy; subst e1; exact ⟨by omega, by omega⟩) (Ne.symm HAP.out.2.2.1) (fun e => (HAP.out.2.2.2 gM e).2.2.2 rfl) HL.out (by decide)).mono ?_
  rintro e w3 ⟨rfl, hr3, hb3, ht3⟩
  obtain ⟨i0, i1, i2, i3, i4, i5, i6, i7, i8, hx9⟩ := list9 (rList_size 9 (s.data.toList, 0))
  obtain ⟨l3, c3, h3⟩ : ∃ l c, rList 9 (s.data.toList, 0) = ((l, c), [i0, i1, i2, i3, i4, i5, i6, i7, i8]) := ⟨_, _, by rw [← hx9]⟩
  have hr3' : Rd w3 b k (rList 9 (s.data.toList, 0)).1.1 (rList 9 (s.data.toList, 0)).1.2 := hr3
  have hb3' : Blk w3 gM 39 (setI zgm ([0, 1, 2, 3, 4, 5, 6, 7, 10].zip (rList 9 (s.data.toList, 0)).2)).toArray := hb3
  rw [h3] at hr3' hb3'
  have hl3 := rList_len 9 (s.data.toList, 0)
  rw [h3] at hl3
  have HL3 : Hid (l3.length ≤ 1000000000) := hide (Nat.le_trans hl3 HL.out)
  replace HR : Hid (Rd w3 b k l3 c3) := hide hr3'
  replace HO := hide (HO.out.putN (new := [.int .i64 i0, .int .i64 i1, .int .i64 i2, .int .i64 i3, .int .i64 i4, .int .i64 i5, .int .i64 i6, .int .i64 i7, .bool false, zl, .int .i64 i8, zs, .bool false]) 1 rfl hb3' ht3 (fun s hs => by
    simp only [List.mem_cons, List.not_mem_nil, or_false] at hs
    rcases hs with rfl | rfl
    · exact .inl rfl
    · exact .inr ⟨.inr HAP.out.1, by simp only [List.nil_append, List.cons_append, List.map_cons, List.map_nil, List.mem_cons, List.not_mem_nil, or_false, not_or]; exact ⟨HAP.out.2.1, HAP.out.2.2.1⟩⟩))
  replace HP := hide ((HP.out.plus [gM, b] (by intro s hs; simp only [List.mem_cons, List.not_mem_nil, or_false] at hs; rcases hs with rfl | rfl <;> assumption)).call ht3 (by simp))
  have H3 := hide h3
  have HK : Hid (∀ y, k = some y → y < w2.heap.size) := hide (fun y hy => (HAP.out.2.2.2 y hy).2.1)
  clear hx9 h3 hr3 hb3 hr3' hb3' hl3 ht3 hp2 hbw hgm hsz1 HB1
  have k0 : ∀ j, w3.cell? ⟨q, j, none⟩ = ([at0 b] : List Value)[j]? := HP.out.cells 0 rfl
  go_wp2_with fail
  have hc := rdBool_c b k l3 c3 w3 HR.out (by have := HL3.out; omega)
  obtain ⟨l4, c4, gr, h4⟩ : ∃ l c x, rBool (l3, c3) = ((l, c), x) := ⟨_, _, _, rfl⟩
  have hl4 : (rBool (l3, c3)).1.1.length ≤ l3.length := rBool_len l3 c3
  rw [h4] at hc hl4
  have HL4 : Hid (l4.length ≤ 1000000000) := hide (Nat.le_trans hl4 HL3.out)
  refine hc.mono ?_
  rintro e w4 ⟨rfl, hr, ht⟩
  replace HR : Hid (Rd w4 b k l4 c4) := hide hr
  replace HO := hide (HO.out.callN ht (fun s hs => by
    obtain rfl := List.mem_singleton.1 hs
    exact ⟨.inr HAP.out.1, by simp only [List.nil_append, List.cons_append, List.set_cons_zero, List.set_cons_succ, List.map_cons, List.map_nil, List.mem_cons, List.not_mem_nil, or_false, not_or]; exact ⟨HAP.out.2.1, HAP.out.2.2.1⟩⟩))
  replace HP := hide (HP.out.call ht (by simp))
  have H4 := hide h4
  clear hc h4 hl4 hr ht k0
  go_wp2_with ((with_reducible refine at_store 4 (.tmp 25) ?_); refine wpList_store_own_t HO.out rfl 4 (.tmp 25) (.tmp 24) rfl 1 _ 8 _ _ [.bool gr] ([.int .i64 i0, .int .i64 i1, .int .i64 i2, .int .i64 i3, .int .i64 i4, .int .i64 i5, .int .i64 i6, .int .i64 i7, .bool gr, zl, .int .i64 i8, zs, .bool false]) rfl (.bool gr) rfl rfl (fits_one rfl) (by simp) rfl (by kernel_rfl) rfl ?_; intro W4 hO hB hT; replace HO := hide hO; have HT := hide hT; clear hO hB hT; refine Hid.out ?_)
  replace HR := hide (HR.out.touch HT.out (by simpa using HAP.out.2.2.1) (fun y hy hm => (HAP.out.2.2.2 y hy).2.2.2 (by simpa using hm)))
  replace HP := hide (HP.out.call HT.out (by simp))
  clear HT
  refine hide ?_
  have k0 : ∀ j, W4.cell? ⟨q, j, none⟩ = ([at0 b] : List Value)[j]? := HP.out.cells 0 rfl
  go_wp2_with fail
  have hc := rdBool_c b k l4 c4 W4 HR.out (by have := HL4.out; omega)
  obtain ⟨l5, c5, dn, h5⟩ : ∃ l c x, rBool (l4, c4) = ((l, c), x) := ⟨_, _, _, rfl⟩
  have hl5 : (rBool (l4, c4)).1.1.length ≤ l4.length := rBool_len l4 c4
  rw [h5] at hc hl5
  have HL5 : Hid (l5.length ≤ 1000000000) := hide (Nat.le_trans hl5 HL4.out)
  refine hc.mono ?_
  rintro e w5 ⟨rfl, hr, ht⟩
  replace HR : Hid (Rd w5 b k l5 c5) := hide hr
  replace HO := hide (HO.out.callN ht (fun s hs => by
    obtain rfl := List.mem_singleton.1 hs
    exact ⟨.inr HAP.out.1, by simp only [List.nil_append, List.cons_append, List.set_cons_zero, List.set_cons_succ, List.map_cons, List.map_nil, List.mem_cons, List.not_mem_nil, or_false, not_or]; exact ⟨HAP.out.2.1, HAP.out.2.2.1⟩⟩))
  replace HP := hide (HP.out.call ht (by simp))
  have H5 := hide h5
  clear hc h5 hl5 hr ht k0
  go_wp2_with ((with_reducible refine at_store 4 (.tmp 29) ?_); refine wpList_store_own_t HO.out rfl 4 (.tmp 29) (.tmp 28) rfl 1 _ 12 _ _ [.bool dn] ([.int .i64 i0, .int .i64 i1, .int .i64 i2, .int .i64 i3, .int .i64 i4, .int .i64 i5, .int .i64 i6, .int .i64 i7, .bool gr, zl, .int .i64 i8, zs, .bool dn]) rfl (.bool dn) rfl rfl (fits_one rfl) (by simp) rfl (by kernel_rfl) rfl ?_; intro W5 hO hB hT; replace HO := hide hO; have HT := hide hT; clear hO hB hT; refine Hid.out ?_)
  replace HR := hide (HR.out.touch HT.out (by simpa using HAP.out.2.2.1) (fun y hy hm => (HAP.out.2.2.2 y hy).2.2.2 (by simpa using hm)))
  replace HP := hide (HP.out.call HT.out (by simp))
  clear HT
  refine hide ?_
  have k0 : ∀ j, W5.cell? ⟨q, j, none⟩ = ([at0 b] : List Value)[j]? := HP.out.cells 0 rfl
  go_wp2_with fail
  have hc := rdText_c b k l5 c5 W5 HR.out (by have := HL5.out; omega) (fun y hy => Nat.lt_of_lt_of_le (HK.out y hy) HP.out.size)
  obtain ⟨l6, c6, tx, h6⟩ : ∃ l c x, rText (l5, c5) = ((l, c), x) := ⟨_, _, _, rfl⟩
  have hl6 : (rText (l5, c5)).1.1.length ≤ l5.length := (rText_both (l5, c5)).1
  rw [h6] at hc hl6
  have HL6 : Hid (l6.length ≤ 1000000000) := hide (Nat.le_trans hl6 HL5.out)
  refine hc.mono ?_
  rintro e w6 ⟨rfl, hr, ht⟩
  replace HR : Hid (Rd w6 b k l6 c6) := hide hr
  replace HO := hide (HO.out.callN ht (fun s hs => by
    obtain rfl := List.mem_singleton.1 hs
    exact ⟨.inr HAP.out.1, by simp only [List.nil_append, List.cons_append, List.set_cons_zero, List.set_cons_succ, List.map_cons, List.map_nil, List.mem_cons, List.not_mem_nil, or_false, not_or]; exact ⟨HAP.out.2.1, HAP.out.2.2.1⟩⟩))
  replace HP := hide (HP.out.call ht (by simp))
  have H6 := hide h6
  clear hc h6 hl6 hr ht k0
  obtain ⟨sd, hsd⟩ : ∃ x : ByteArray, (⟨tx.toArray⟩ : ByteArray) = x := ⟨_, rfl⟩
  simp only [hsd]
  have HSD := hide hsd
  clear hsd
  go_wp2_with ((with_reducible refine at_store 9 (.tmp 33) ?_); refine wpList_store_own_t HO.out rfl 9 (.tmp 33) (.tmp 32) rfl 1 _ 11 _ _ [.string sd] ([.int .i64 i0, .int .i64 i1, .int .i64 i2, .int .i64 i3, .int .i64 i4, .int .i64 i5, .int .i64 i6, .int .i64 i7, .bool gr, zl, .int .i64 i8, .string sd, .bool dn]) rfl (.string sd) rfl rfl (fits_one rfl) (by simp) rfl (by kernel_rfl) rfl ?_; intro W6 hO hB hT; replace HO := hide hO; have HT := hide hT; clear hO hB hT; refine Hid.out ?_)
  replace HR := hide (HR.out.touch HT.out (by simpa using HAP.out.2.2.1) (fun y hy hm => (HAP.out.2.2.2 y hy).2.2.2 (by simpa using hm)))
  replace HP := hide (HP.out.call HT.out (by simp))
  clear HT
  refine hide ?_
  have k0 : ∀ j, W6.cell? ⟨q, j, none⟩ = ([at0 b] : List Value)[j]? := HP.out.cells 0 rfl
  go_wp2_with ((with_reducible refine at_load 157 (.tmp 5) ?_); refine wpList_load_own HP.out rfl 157 (.tmp 5) rfl 0 _ 0 1 _ _ [at0 b] _ rfl rfl rfl Try.underlying157 rfl (by kernel_rfl) ?_)
  have hc := rentries_c b k l6 c6 W6 HR.out (by have := HL6.out; omega) (fun y hy => Nat.lt_of_lt_of_le (HK.out y hy) HP.out.size)
  obtain ⟨r7, n7, h7⟩ : ∃ r n, rCnt (l6, c6) = (r, n) := ⟨_, _, rfl⟩
  obtain ⟨l8, c8, le, h8⟩ : ∃ l c x, rEns n7 r7 = ((l, c), x) := ⟨_, _, _, rfl⟩
  rw [h7] at hc
  simp only [h8] at hc
  refine hc.mono ?_
  rintro e w7 ⟨v, css, rfl, ho, hen, hr, ht⟩
  obtain ⟨A, n, c, rfl⟩ := ho.formN
  have HMQ : Hid (rMsg s.data.toList = ((l8, c8), ⟨[i0, i1, i2, i3, i4, i5, i6, i7, i8], gr, dn, sd, le⟩)) := hide (by unfold rMsg; simp only [H3.out, H4.out, H5.out, H6.out, h7, h8, HSD.out])
  replace HR : Hid (Rd w7 b k l8 c8) := hide hr
  have HES : Hid (EsAB w7 W6.heap.size (.slice A n c) le) := hide ⟨css, ho, hen⟩
  have HGW : Hid (gM < W6.heap.size ∧ gR < W6.heap.size ∧ w.heap.size ≤ W6.heap.size) := hide ⟨(HO.out.blk 1 rfl).lt, (HO.out.blk 0 rfl).lt, HO.out.size⟩
  replace HO := hide (HO.out.callN ht (fun s hs => by
    obtain rfl := List.mem_singleton.1 hs
    exact ⟨.inr HAP.out.1, by simp only [List.nil_append, List.cons_append, List.set_cons_zero, List.set_cons_succ, List.map_cons, List.map_nil, List.mem_cons, List.not_mem_nil, or_false, not_or]; exact ⟨HAP.out.2.1, HAP.out.2.2.1⟩⟩))
  replace HP := hide (HP.out.call ht (by simp))
  clear hc h7 h8 ho hen hr ht k0 H3 H4 H5 H6 HSD
  go_wp2_with ((with_reducible refine at_store 37 (.tmp 36) ?_); refine wpList_store_own_t HO.out rfl 37 (.tmp 36) (.tmp 35) rfl 1 _ 9 _ _ [.slice A n c] ([.int .i64 i0, .int .i64 i1, .int .i64 i2, .int .i64 i3, .int .i64 i4, .int .i64 i5, .int .i64 i6, .int .i64 i7, .bool gr, .slice A n c, .int .i64 i8, .string sd, .bool dn]) rfl (.slice A n c) rfl rfl (fits_one rfl) (by simp) rfl (by kernel_rfl) rfl ?_; intro W8 hO hB hT; replace HO := hide hO; have HT := hide hT; clear hO hB hT; refine Hid.out ?_)
  replace HES := hide (HES.out.touch HT.out (fun s hs => by rw [List.mem_singleton.1 hs]; exact HGW.out.1))
  replace HR := hide (HR.out.touch HT.out (by simpa using HAP.out.2.2.1) (fun y hy hm => (HAP.out.2.2.2 y hy).2.2.2 (by simpa using hm)))
  replace HP := hide (HP.out.call HT.out (by simp))
  clear HT
  refine hide ?_
  have k0 : ∀ j, W8.cell? ⟨q, j, none⟩ = ([at0 b] : List Value)[j]? := HP.out.cells 0 rfl
  go_wp2_with fail
  have hc := end_c b k l8 c8 W8 HR.out
  obtain ⟨z, hz⟩ : ∃ z, rEnd (l8, c8) = z := ⟨_, rfl⟩
  rw [hz] at hc
  refine hc.mono ?_
  rintro e w9 ⟨rfl, rfl⟩
  have HZ := hide hz
  clear hc hz k0
  by_cases h0 : z = 0
  · subst h0
    have HD : Hid (dMsg s.data.toList = ⟨[i0, i1, i2, i3, i4, i5, i6, i7, i8], gr, dn, sd, le⟩) := hide (by unfold dMsg; rw [HMQ.out]; simp only [HZ.out]; rfl)
    go_wp2_with (first
      | ((with_reducible refine at_load 39 (.tmp 4) ?_); refine wpList_load_own HO.out rfl 39 (.tmp 4) rfl 1 _ 0 13 _ _ ([.int .i64 i0, .int .i64 i1, .int .i64 i2, .int .i64 i3, .int .i64 i4, .int .i64 i5, .int .i64 i6, .int .i64 i7, .bool gr, .slice A n c, .int .i64 i8, .string sd, .bool dn]) _ rfl rfl rfl Try.underlying39 rfl size_gm ?_)
      | ((with_reducible refine at_store 39 (.tmp 2) ?_); refine wpList_store_own_t HO.out rfl 39 (.tmp 2) (.tmp 42) rfl 0 _ 0 _ _ ([.int .i64 i0, .int .i64 i1, .int .i64 i2, .int .i64 i3, .int .i64 i4, .int .i64 i5, .int .i64 i6, .int .i64 i7, .bool gr, .slice A n c, .int .i64 i8, .string sd, .bool dn]) ([.int .i64 i0, .int .i64 i1, .int .i64 i2, .int .i64 i3, .int .i64 i4, .int .i64 i5, .int .i64 i6, .int .i64 i7, .bool gr, .slice A n c, .int .i64 i8, .string sd, .bool dn]) rfl (.agg ([.int .i64 i0, .int .i64 i1, .int .i64 i2, .int .i64 i3, .int .i64 i4, .int .i64 i5, .int .i64 i6, .int .i64 i7, .bool gr, .slice A n c, .int .i64 i8, .string sd, .bool dn] : List Value).toArray) rfl rfl (fits_agg _) (by simp) rfl size_gm rfl ?_; intro W9 hO hB hT; replace HO := hide hO; replace HES := hide (HES.out.touch hT (fun s hs => by rw [List.mem_singleton.1 hs]; exact HGW.out.2.1)); clear hO hB hT))
    refine bodyPost_ret (results_row_tmp Try.results74 _ _ gR 39 _ (0, 0) _ _ rfl rfl (HO.out.blk 0 rfl) Try.underlying39 rfl size_gm) rfl ?_
    exact ⟨A, n, c, 0, by rw [HD.out]; rfl, by rw [HD.out]; exact HES.out.lower HGW.out.2.2, HO.out.below⟩
  · have hzb : (z == 0) = false := by simpa using h0
    have HD : Hid (dMsg s.data.toList = gm0) := hide (by unfold dMsg; rw [HMQ.out]; simp only [HZ.out]; rw [if_neg h0])
    clear h0
    go_wp2_with (first
      | ((with_reducible refine at_build 39 ?_); refine wpList_build rfl 39 #[] rfl [] (by simp) zgm.toArray (by kernel_rfl) ?_)
      | ((with_reducible refine at_store 39 (.tmp 2) ?_); refine wpList_store_own HO.out rfl 39 (.tmp 2) (.tmp 41) rfl 0 _ 0 _ _ zgm zgm rfl (.agg zgm.toArray) rfl rfl (fits_agg _) (by simp) rfl size_gm rfl ?_; intro W9 hO; replace HO := hide hO; clear hO))
    refine bodyPost_ret (results_row_tmp Try.results74 _ _ gR 39 _ (0, 0) _ _ rfl rfl (HO.out.blk 0 rfl) Try.underlying39 rfl size_gm) rfl ?_
    exact ⟨none, 0, 0, 11, by rw [HD.out]; rfl, by rw [HD.out]; exact EsAB.nil _ _, HO.out.below⟩
end
end Go.Proofs.Ytpbgelhjbfckcaa
