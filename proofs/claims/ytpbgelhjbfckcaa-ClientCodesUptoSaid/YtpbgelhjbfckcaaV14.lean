/- Entries are read. -/
import Derived.Test.YtpbgelhjbfckcaaV13
namespace Go.Proofs.Ytpbgelhjbfckcaa
set_option linter.unusedVariables false
set_option linter.unusedSimpArgs false
open List renaming getElem_toArray → qa, getElem_cons_zero → qb, getElem_cons_succ → qc, setIfInBounds_toArray → qd, set_cons_zero → qe, set_cons_succ → qf
open Go.ChangeShapes Go.WideShapes Go.ChangeAt Go.RowKit
/-- Each row of cells is an entry. -/
def EnsAt (w : World) (A0 : Nat) (css : List (List Value)) (l : List En) : Prop := css.length = l.length ∧ ∀ i (h : i < css.length) (h2 : i < l.length), EnAB w A0 css[i] l[i]
theorem EnsAt.nil (w : World) (A0 : Nat) : EnsAt w A0 [] [] := ⟨rfl, fun i h => by cases h⟩
theorem EnsAt.turn {w w' : World} {A0 : Nat} {css : List (List Value)} {l : List En} {S : List Nat} (h : EnsAt w A0 css l) (k : Touch S w w') (hS : ∀ s ∈ S, s < A0 ∨ ∀ cs, ¬ Blk w s 3 cs) : EnsAt w' A0 css l :=
 ⟨h.1, fun i h1 h2 => (h.2 i h1 h2).turn k hS⟩
theorem EnsAt.snoc {w : World} {A0 : Nat} {css : List (List Value)} {l : List En} {cs : List Value} {x : En} (h : EnsAt w A0 css l) (hv : EnAB w A0 cs x) : EnsAt w A0 (css ++ [cs]) (l ++ [x]) := by
 refine ⟨by simp [h.1], fun i h1 h2 => ?_⟩
 by_cases hi : i < css.length
 ·rw [List.getElem_append_left hi, List.getElem_append_left (by rw [← h.1]; exact hi)]
  exact h.2 i hi _
 ·rw [List.length_append] at h1
  simp only [List.length_cons, List.length_nil] at h1
  have e : i = css.length := by omega
  subst e
  have e2 := h.1
  simp only [List.getElem_append_right (Nat.le_refl _), Nat.sub_self, List.getElem_cons_zero]
  have : (l ++ [x])[css.length] = x := by simp [e2]
  rw [this]
  exact hv
theorem blk_ptrs {w : World} {p g : Nat} {t : TypeId} {ns : List Nat} (h : Blk w p t (ns.map fun o => Value.pointer (some ⟨g, o, none⟩)).toArray) (hs : ns.length ≤ 100) : Ptrs w (.slice (some ⟨p, 0, none⟩) ns.length ns.length) g ns :=
 ⟨_, _, rfl, Nat.le_refl _, by unfold maxLen; omega, fun _ => ⟨p, 0, rfl, fun i hi => by rw [Nat.zero_add, h.cell i]; simp [hi]⟩⟩
theorem Own.turn2 {w0 W W' : World} {S : List Nat} {L : List (Nat × TypeId × List Value)} {g b : Nat} {t : TypeId} {cs cs' : List Value} (h : Own w0 S L W) (hm : (g, t, cs) ∈ L) (ht : Touch [g, b] W W') (hb : b < w0.heap.size) (hS : ∀ s ∈ S, s ∈ [b]) (hB : Blk W' g t cs'.toArray) : Own w0 [b] [(g, t, cs')] W' :=
 ⟨fun e he => by obtain rfl := List.mem_singleton.1 he; exact ⟨hB, (h.has _ hm).2⟩, by simp, (h.touch.mono (fun s hs => .inl (hS s hs))).next ht (fun s hs => by
  simp only [List.mem_cons, List.not_mem_nil, or_false] at hs
  rcases hs with rfl | rfl
  ·exact .inr (h.has _ hm).2
  ·exact .inl (by simp)), fun s hs => by rw [List.mem_singleton.1 hs]; exact hb⟩
theorem blk_kind {w : World} {g : Nat} {t t' : TypeId} {cs : Array Value} (h : Blk w g t cs) (ht : t ≠ t') : ∀ cs', ¬ Blk w g t' cs' := fun cs' h2 => by
 unfold Blk at h h2
 rw [h] at h2
 injection h2 with h2
 injection h2 with _ h2
 exact ht h2
theorem OwE.kind {w : World} {base : Nat} {v : Value} {css : List (List Value)} (h : OwE w base v css) (s : Nat) (hs : v.ownBlock = some s) : ∀ cs, ¬ Blk w s 3 cs := by
 obtain ⟨_, ⟨rfl, _⟩ | ⟨g, cap, cur, rfl, _, hg, _⟩⟩ := h
 ·cases hs
 ·obtain rfl : g = s := by injection hs
  exact blk_kind (t := 116) hg (by decide)
theorem Own.callN {w0 W W' : World} {S T : List Nat} {L : List (Nat × TypeId × List Value)} (h : Own w0 S L W) (ht : Touch T W W') (hT : ∀ s ∈ T, (s ∈ S ∨ w0.heap.size ≤ s) ∧ s ∉ L.map (·.1)) : Own w0 S L W' :=
 ⟨fun e he => ⟨(h.has e he).1.touch ht (fun hm => (hT _ hm).2 (List.mem_map.2 ⟨e, he, rfl⟩)), (h.has e he).2⟩, h.apart, h.touch.next ht (fun t hm => (hT t hm).1), h.old⟩
theorem list5 {l : List Int} (h : l.length = 5) : ∃ a b c d e, l = [a, b, c, d, e] := by
 match l, h with
 | [a, b, c, d, e], _ => exact ⟨a, b, c, d, e, rfl⟩
theorem list4 {l : List Int} (h : l.length = 4) : ∃ a b c d, l = [a, b, c, d] := by
 match l, h with
 | [a, b, c, d], _ => exact ⟨a, b, c, d, rfl⟩
section
attribute [local irreducible] rList rGL rText rCnt
theorem rEn_fst (r : RS) : (rEn r).1 = (rGL (rGL (rGL (rGL (rGL (rList 4 (rText (rList 5 r).1).1).1).1).1).1).1).1 := rfl
set_option maxRecDepth 100000 in
set_option maxHeartbeats 8000000 in
theorem rentries_c (b : Nat) (k : Option Nat) (l : List UInt8) (c : Int) (w : World) (h : Rd w b k l c) (hl : l.length ≤ 1000000000) (hk : ∀ j, k = some j → j < w.heap.size) :
 Calls Try.prog 100 #[.agg #[at0 b]] w fun e w' => ∃ v css, e = .returned v ∧ OwE w' w.heap.size v css ∧ EnsAt w' w.heap.size css (rEns (rCnt (l, c)).2 (rCnt (l, c)).1).2 ∧ Rd w' b k (rEns (rCnt (l, c)).2 (rCnt (l, c)).1).1.1 (rEns (rCnt (l, c)).2 (rCnt (l, c)).1).1.2 ∧ Touch [b] w w' := by
 have HBL := hide h.lt
 have HO := hide (Own.nil w [] (by simp))
 have H := hide h;have HL := hide hl;have HK := hide hk;clear h hl hk
 go_enter Try.func100, Try.ntmps100
 go_wp2_with (first
  | ((with_reducible refine at_box 157 (.tmp 0) ?_); refine wpList_box_own HO.out rfl 157 (.tmp 0) rfl ([at0 b]) rfl ?_; intro WA q hO; replace HO := hide hO; clear hO)
  | ((with_reducible refine at_load 157 (.tmp 1) ?_); refine wpList_load_own HO.out rfl 157 (.tmp 1) rfl 0 _ 0 1 _ _ [at0 b] _ rfl rfl rfl Try.underlying157 rfl (by kernel_rfl) ?_))
 have HR1 := hide (H.out.step HO.out.below)
 replace HO := hide (HO.out.plus [b] (by simpa using HBL.out))
 refine (count_c b k l c _ HR1.out HL.out (fun j hj => Nat.lt_of_lt_of_le (HK.out j hj) HO.out.size)).mono ?_
 rintro e w2 ⟨rfl, hr2, ht2⟩
 have HC2 : Hid ((rCnt (l, c)).2 ≤ 1000000000) := hide (Nat.le_trans (rCnt_le _) HL.out)
 have HRL : Hid ((rCnt (l, c)).1.1.length ≤ 1000000000) := hide (Nat.le_trans (rCnt_len _) HL.out)
 have HR2 := hide hr2
 replace HO := hide (HO.out.call ht2 (by simp))
 generalize hn : (rCnt (l, c)).2 = n at *
 generalize hr : (rCnt (l, c)).1 = r1 at *
 have HN := hide hn;have HRR := hide hr;clear hr2 ht2 hn hr;have hn7 := HC2.out
 go_wp2_with fail
 go_loopw [3, 8] (fun v3 v8 wr => ∃ (j : Nat) (css : List (List Value)), v8 = .int .i64 j ∧ j ≤ n ∧ OwE wr w.heap.size v3 css ∧ EnsAt wr w.heap.size css (rEns j r1).2 ∧ Rd wr b k (rEns j r1).1.1 (rEns j r1).1.2 ∧ Own w [b] ([] ++ [(q, 157, [at0 b])]) wr ∧ (∀ y, v3.ownBlock = some y → y ≠ q)) (fun _ v8 _ => n - (intOf v8).toNat)
 case atStart => exact ⟨0, [], rfl, Nat.zero_le _, OwE.nil _ _, EnsAt.nil _ _, HR2.out, HO.out, fun y hy => by cases hy⟩
 case round =>
  obtain ⟨j, css, rfl, hj, ho, hen, hr, hown, hqg⟩ := hrel
  clear HR2 HO;have HOE := hide ho;have HEN := hide hen;have HR := hide hr;have HQ := hide hown;have HQG := hide hqg;have HJ := hide hj;clear ho hen hr hown hqg
  by_cases hlt : j < n
  ·have HLT := hide hlt
   have hji : (j : Int) < (n : Int) := by omega
   have HO := hide (Own.nil wr [] (by simp))
   have k0 : wr.cell? ⟨q, 0, none⟩ = some (at0 b) := HQ.out.cells 0 rfl 0
   clear hlt hj
   go_wp2_with (first
    | ((with_reducible refine at_alloc 116 ?_); refine wpList_alloc_own HO.out rfl 116 rfl ([zi, zi, zi, zi, zi, zs, zi, zi, zi, zi, zl, zl, zl, zl, zl]) info_entry ?_; intro WA g hO; replace HO := hide hO; clear hO)
    | fail)
   refine wp_region_held_drew (S := fun W => (∀ j, W.cell? ⟨q, j, none⟩ = ([at0 b] : List Value)[j]?)) (by kernel_rfl) ((HQ.out.step HO.out.drew.below).cells 0 rfl) (fun hS0 => ?_)
   replace HO := hide HO.out.drew
   refine ty 0 (.agg ([at0 b]).toArray) rfl (yieldsIf_load rfl 157 (.tmp 1) rfl q 0 1 157 ([at0 b]) ([at0 b]) _ (fun w hw => hw) rfl rfl Try.underlying157 rfl (by kernel_rfl)) ?_
   refine tk 1 ?_;refine tk 2 ?_;refine tk 3 ?_;refine tk 4 ?_;refine tk 5 ?_;refine tk 6 ?_;refine tk 7 ?_;refine tk 8 ?_;refine tk 9 ?_;refine tk 10 ?_;refine tk 11 ?_
   refine tr1 12 fun K hK => ?_
   refine step_slice_ownV HO.out rfl 125 121 _ ([.pointer (some ⟨g, 0, none⟩), .pointer (some ⟨g, 1, none⟩), .pointer (some ⟨g, 2, none⟩), .pointer (some ⟨g, 3, none⟩), .pointer (some ⟨g, 4, none⟩)]) rfl (by simp [Act.eval]) Try.underlying125 (by kernel_rfl) (by kernel_rfl) (by simp [Value.cells]) (by simp) (by simp) ?_
   intro WA p5 hO
   replace HO := hide hO
   clear hO
   refine hK.out _ _ ((HQ.out.step HO.out.below).cells 0 rfl) (fun hS12 => ?_)
   clear hK K
   try simp only [Act.put, qa, qb, qc, qd, qe, qf]
   refine tr1 13 fun K hK => ?_
   go_simp
   have hne : p5 ≠ g := by have h := HO.out.apart; simp at h; exact fun e => h e.symm
   have hg0 := HO.out.new 0 rfl;have hp0 := HO.out.new 1 rfl
   have hbw : b < wr.heap.size := HR.out.lt
   have HKR : Hid (∀ y, k = some y → y < wr.heap.size) := hide (fun y hy => Nat.lt_of_lt_of_le (HK.out y hy) HQ.out.size)
   refine (rints_c b k (rEns j r1).1.1 (rEns j r1).1.2 g 116 [zi, zi, zi, zi, zi, zs, zi, zi, zi, zi, zl, zl, zl, zl, zl] [0, 1, 2, 3, 4] (.slice (some ⟨p5, 0, none⟩) 5 5) WA (HR.out.step HO.out.below) (blk_ptrs (ns := [0, 1, 2, 3, 4]) (HO.out.blk 1 rfl) (by decide)) (HO.out.blk 0 rfl) (fun y hy => by injection hy with hy; have e1 : p5 = y := hy; subst e1; exact ⟨hne, by omega⟩) (by omega) (fun e => by have := HKR.out g e; omega) (Nat.le_trans (rEns_len j r1) HRL.out) (by decide)).mono ?_
   rintro e w5 ⟨rfl, hr5, hb5, ht5⟩
   have HR5 : Hid (Rd w5 b k (rList 5 (rEns j r1).1).1.1 (rList 5 (rEns j r1).1).1.2) := hide hr5
   replace HO := hide (HO.out.turn2 (cs := [zi, zi, zi, zi, zi, zs, zi, zi, zi, zi, zl, zl, zl, zl, zl]) (by simp) ht5 hbw (by simp) hb5)
   clear hr5 hb5 ht5 hne hg0 hp0 hbw
   refine hK.out _ _ ((HQ.out.call HO.out.touch (by simp)).cells 0 rfl) (fun hS13 => ?_)
   clear hK K
   try simp only [Act.put, qa, qb, qc, qd, qe, qf]
   refine wpAnyH_done (by kernel_rfl) ?_ _
   clear hS0
   have HRA : Hid ((rList 5 (rEns j r1).1).1.1.length ≤ 1000000000) := hide (Nat.le_trans (rList_len _ _) (Nat.le_trans (rEns_len j r1) HRL.out))
   have HKR : Hid (∀ y, k = some y → y < wr.heap.size) := hide (fun y hy => Nat.lt_of_lt_of_le (HK.out y hy) HQ.out.size)
   have k1 := (HQ.out.call HO.out.touch (by simp)).cells 0 rfl 0
   go_wp2_with fail
   refine (rdText_c b k _ _ _ HR5.out (by have := HRA.out; exact Nat.le_trans this (by decide)) (fun y hy => Nat.lt_of_lt_of_le (HKR.out y hy) HO.out.size)).mono ?_
   rintro e w7 ⟨rfl, hr7, ht7⟩
   have HR7 : Hid (Rd w7 b k (rText (rList 5 (rEns j r1).1).1).1.1 (rText (rList 5 (rEns j r1).1).1).1.2) := hide hr7
   replace HO := hide (HO.out.call ht7 (by simp))
   have HRB : Hid ((rText (rList 5 (rEns j r1).1).1).1.1.length ≤ 1000000000) := hide (Nat.le_trans (rText_both _).1 HRA.out)
   have HL5 : Hid ((setI [zi, zi, zi, zi, zi, zs, zi, zi, zi, zi, zl, zl, zl, zl, zl] ([0, 1, 2, 3, 4].zip (rList 5 (rEns j r1).1).2)).length = 15) := hide (setI_len _ _)
   obtain ⟨u5x, hu5⟩ : ∃ u, (setI [zi, zi, zi, zi, zi, zs, zi, zi, zi, zi, zl, zl, zl, zl, zl] ([0, 1, 2, 3, 4].zip (rList 5 (rEns j r1).1).2))[5]? = some u := ⟨_, List.getElem?_eq_getElem (by rw [HL5.out]; decide)⟩
   have c5 : w7.cell? ⟨g, 5, none⟩ = some u5x := (HO.out.cells 0 rfl 5).trans hu5
   have f5 := HO.out.froz 0 rfl 5;clear hr7 ht7 hu5 k1
   go_wp2_with fail
   have HTS : Hid (Touch [g] w7 (w7.setCell ⟨g, 5, none⟩ (.string ⟨(rText (rList 5 (rEns j r1).1).1).2.toArray⟩))) := hide ((Touch.refl [g] w7).set (.inl (by simp)) 5 _)
   have hg0 := HO.out.new 0 rfl;have hbw := HR.out.lt
   have HR8 := hide (HR7.out.touch HTS.out (by simp only [List.mem_singleton]; omega) (fun y hy hm => by have := HKR.out y hy; simp only [List.mem_singleton] at hm; omega))
   have HG := hide (HO.out.set 0 rfl 5 (.string ⟨(rText (rList 5 (rEns j r1).1).1).2.toArray⟩))
   have HQ8 := hide (HQ.out.call HG.out.touch (by simp))
   have HL7 : Hid (((setI [zi, zi, zi, zi, zi, zs, zi, zi, zi, zi, zl, zl, zl, zl, zl] ([0, 1, 2, 3, 4].zip (rList 5 (rEns j r1).1).2)).set 5 (.string ⟨(rText (rList 5 (rEns j r1).1).1).2.toArray⟩)).length = 15) := hide (by rw [List.length_set, HL5.out])
   generalize hc7 : (setI [zi, zi, zi, zi, zi, zs, zi, zi, zi, zi, zl, zl, zl, zl, zl] ([0, 1, 2, 3, 4].zip (rList 5 (rEns j r1).1).2)).set 5 (.string ⟨(rText (rList 5 (rEns j r1).1).1).2.toArray⟩) = cs7 at *
   have HC7 := hide hc7;clear hc7 HO c5 f5 hg0 hbw
   have HO := hide (Own.nil (w7.setCell ⟨g, 5, none⟩ (.string ⟨(rText (rList 5 (rEns j r1).1).1).2.toArray⟩)) [] (by simp))
   refine wp_region_held_drew (S := fun W => (∀ j, W.cell? ⟨q, j, none⟩ = ([at0 b] : List Value)[j]?)) (by kernel_rfl) ((HQ8.out.step HO.out.drew.below).cells 0 rfl) (fun hS0 => ?_)
   replace HO := hide HO.out.drew
   refine ty 0 (.agg ([at0 b]).toArray) rfl (yieldsIf_load rfl 157 (.tmp 1) rfl q 0 1 157 ([at0 b]) ([at0 b]) _ (fun w hw => hw) rfl rfl Try.underlying157 rfl (by kernel_rfl)) ?_
   refine tk 1 ?_;refine tk 2 ?_;refine tk 3 ?_;refine tk 4 ?_;refine tk 5 ?_;refine tk 6 ?_;refine tk 7 ?_;refine tk 8 ?_;refine tk 9 ?_;refine tk 10 ?_;refine tk 11 ?_;refine tk 12 ?_;refine tk 13 ?_;refine tk 14 ?_
   refine tr1 15 fun K hK => ?_
   refine step_slice_ownV HO.out rfl 125 121 _ ([.pointer (some ⟨g, 6, none⟩), .pointer (some ⟨g, 7, none⟩), .pointer (some ⟨g, 8, none⟩), .pointer (some ⟨g, 9, none⟩)]) rfl (by simp [Act.eval]) Try.underlying125 (by kernel_rfl) (by kernel_rfl) (by simp [Value.cells]) (by simp) (by simp) ?_
   intro WA p8 hO
   replace HO := hide hO
   clear hO
   refine hK.out _ _ ((HQ8.out.step HO.out.below).cells 0 rfl) (fun hS15 => ?_)
   clear hK K
   try simp only [Act.put, qa, qb, qc, qd, qe, qf]
   refine tr1 16 fun K hK => ?_
   go_simp
   have hp0 := HO.out.new 0 rfl;have hb8 := HR8.out.lt
   have hg8 := (HG.out.blk 0 rfl).lt
   have hg0 := HG.out.new 0 rfl;have hbw := HR.out.lt
   refine (rints_c b k _ _ g 116 cs7 [6, 7, 8, 9] (.slice (some ⟨p8, 0, none⟩) 4 4) WA (HR8.out.step HO.out.below) (blk_ptrs (ns := [6, 7, 8, 9]) (HO.out.blk 0 rfl) (by decide)) ((HG.out.blk 0 rfl).step HO.out.below) (fun y hy => by injection hy with hy; have e1 : p8 = y := hy; subst e1; exact ⟨by omega, by omega⟩) (by omega) (fun e => by have := HKR.out g e; omega) HRB.out (by rw [HL7.out]; decide)).mono ?_
   rintro e w9 ⟨rfl, hr9, hb9, ht9⟩
   have HR9 : Hid (Rd w9 b k (rList 4 (rText (rList 5 (rEns j r1).1).1).1).1.1 (rList 4 (rText (rList 5 (rEns j r1).1).1).1).1.2) := hide hr9
   replace HG := hide ((HG.out.step HO.out.below).turn2 (cs := cs7) (by simp) ht9 hbw (by simp) hb9)
   clear hr9 hb9 ht9 hp0 hb8 hg8 hg0 hbw HO
   have k9 := (HQ.out.call HG.out.touch (by simp)).cells 0 rfl
   refine hK.out _ _ (k9) (fun hS16 => ?_)
   clear hK K
   try simp only [Act.put, qa, qb, qc, qd, qe, qf]
   refine wpAnyH_done (by kernel_rfl) ?_ _
   clear hS0
   have HRC : Hid ((rList 4 (rText (rList 5 (rEns j r1).1).1).1).1.1.length ≤ 1000000000) := hide (Nat.le_trans (rList_len _ _) HRB.out)
   have HQ9 := hide (HQ.out.call HG.out.touch (by simp))
   go_wp2_with ((with_reducible refine at_load 157 (.tmp 1) ?_); refine wpList_load_own HQ9.out rfl 157 (.tmp 1) rfl 0 _ 0 1 _ _ [at0 b] _ rfl rfl rfl Try.underlying157 rfl (by kernel_rfl) ?_)
   refine (rlist_c b k _ _ _ HR9.out HRC.out (fun y hy => Nat.lt_of_lt_of_le (HKR.out y hy) HG.out.size)).mono ?_
   rintro e w10 hg10
   obtain ⟨Af, nf, cf, rfl, hlf, hr10, ht10⟩ := hg10.use (rGL_i64 _) (Nat.le_trans HQ.out.size HG.out.size)
   have HLF := hide hlf
   have HR10 : Hid (Rd w10 b k (rGL (rList 4 (rText (rList 5 (rEns j r1).1).1).1).1).1.1 (rGL (rList 4 (rText (rList 5 (rEns j r1).1).1).1).1).1.2) := hide hr10
   replace HG := hide (HG.out.call ht10 (by simp))
   clear hg10 hlf hr10 ht10 HQ9 k9
   have HL9 : Hid ((setI cs7 ([6, 7, 8, 9].zip (rList 4 (rText (rList 5 (rEns j r1).1).1).1).2)).length = 15) := hide (by rw [setI_len, HL7.out])
   generalize hc9 : setI cs7 ([6, 7, 8, 9].zip (rList 4 (rText (rList 5 (rEns j r1).1).1).1).2) = cs9 at *
   have HC9 := hide hc9;clear hc9
   obtain ⟨u10x, hu10⟩ : ∃ u, cs9[10]? = some u := ⟨_, List.getElem?_eq_getElem (by rw [HL9.out]; decide)⟩
   have c10 : w10.cell? ⟨g, 10, none⟩ = some u10x := (HG.out.cells 0 rfl 10).trans hu10
   have f10 := HG.out.froz 0 rfl 10
   have HQ10 := hide (HQ.out.call HG.out.touch (by simp))
   clear hu10
   have HX10 := hide (HG.out.set 0 rfl 10 (.slice Af nf cf))
   have HQ11 := hide (HQ.out.call HX10.out.touch (by simp))
   go_wp2_with ((with_reducible refine at_load 157 (.tmp 1) ?_); refine wpList_load_own HQ11.out rfl 157 (.tmp 1) rfl 0 _ 0 1 _ _ [at0 b] _ rfl rfl rfl Try.underlying157 rfl (by kernel_rfl) ?_)
   have hg0 := HG.out.new 0 rfl;have hbw := HR.out.lt
   have HTS10 : Hid (Touch [g] w10 (w10.setCell ⟨g, 10, none⟩ (.slice Af nf cf))) := hide ((Touch.refl [g] w10).set (.inl (by simp)) 10 _)
   have HR10b := hide (HR10.out.touch HTS10.out (by simp only [List.mem_singleton]; omega) (fun y hy hm => by have := HKR.out y hy; simp only [List.mem_singleton] at hm; omega))
   have HBE := hide (HG.out.blk 0 rfl)
   have HLFb := hide (HLF.out.turn HTS10.out (Nat.le_refl _) (fun s hs => .inr (fun cs hB => by rw [List.mem_singleton.1 hs] at hB; unfold Blk at hB; have h2 := HBE.out; unfold Blk at h2; rw [h2] at hB; injection hB with hB; injection hB with _ hB; revert hB; decide)))
   have HRD : Hid ((rGL (rList 4 (rText (rList 5 (rEns j r1).1).1).1).1).1.1.length ≤ 1000000000) := hide (Nat.le_trans (rGL_len _) HRC.out)
   refine (rlist_c b k _ _ _ HR10b.out HRD.out (fun y hy => Nat.lt_of_lt_of_le (HKR.out y hy) HX10.out.size)).mono ?_
   rintro e w11 hg11
   obtain ⟨At, nt, ct, rfl, hlt, hr11, ht11⟩ := hg11.use (rGL_i64 _) (Nat.le_trans HQ.out.size HX10.out.size)
   have HLT2 := hide hlt
   have HLF2 := hide (HLFb.out.touch ht11 (Nat.le_refl _) (by simpa using HBL.out))
   have HR11 : Hid (Rd w11 b k (rGL (rGL (rList 4 (rText (rList 5 (rEns j r1).1).1).1).1).1).1.1 (rGL (rGL (rList 4 (rText (rList 5 (rEns j r1).1).1).1).1).1).1.2) := hide hr11
   have HG11 := hide (HX10.out.call ht11 (by simp))
   clear hg11 hlt hr11 ht11
   have hu11' : (cs9.set 10 (.slice Af nf cf)).length = 15 := by rw [List.length_set, HL9.out]
   obtain ⟨u11x, hu11⟩ : ∃ u, (cs9.set 10 (.slice Af nf cf))[11]? = some u := ⟨_, List.getElem?_eq_getElem (by rw [hu11']; decide)⟩
   have c11 : w11.cell? ⟨g, 11, none⟩ = some u11x := (HG11.out.cells 0 rfl 11).trans hu11
   have f11 := HG11.out.froz 0 rfl 11;clear hu11 hu11' c10 f10 hg0 hbw
   have HX11 := hide (HG11.out.set 0 rfl 11 (.slice At nt ct))
   have HQ12 := hide (HQ.out.call HX11.out.touch (by simp))
   go_wp2_with ((with_reducible refine at_load 157 (.tmp 1) ?_); refine wpList_load_own HQ12.out rfl 157 (.tmp 1) rfl 0 _ 0 1 _ _ [at0 b] _ rfl rfl rfl Try.underlying157 rfl (by kernel_rfl) ?_)
   have hg0 := HG11.out.new 0 rfl;have hbw := HR.out.lt
   have HTS11 : Hid (Touch [g] w11 (w11.setCell ⟨g, 11, none⟩ (.slice At nt ct))) := hide ((Touch.refl [g] w11).set (.inl (by simp)) 11 _)
   have HR11b := hide (HR11.out.touch HTS11.out (by simp only [List.mem_singleton]; omega) (fun y hy hm => by have := HKR.out y hy; simp only [List.mem_singleton] at hm; omega))
   have HBE11 := hide (HG11.out.blk 0 rfl)
   have HLFc := hide (HLF2.out.turn HTS11.out (Nat.le_refl _) (fun s hs => .inr (by rw [List.mem_singleton.1 hs]; exact blk_kind HBE11.out (by decide))))
   have HLTc := hide (HLT2.out.turn HTS11.out (Nat.le_refl _) (fun s hs => .inr (by rw [List.mem_singleton.1 hs]; exact blk_kind HBE11.out (by decide))))
   have HRE : Hid ((rGL (rGL (rList 4 (rText (rList 5 (rEns j r1).1).1).1).1).1).1.1.length ≤ 1000000000) := hide (Nat.le_trans (rGL_len _) HRD.out)
   refine (rconfig_c b k _ _ _ HR11b.out HRE.out (fun y hy => Nat.lt_of_lt_of_le (HKR.out y hy) HX11.out.size)).mono ?_
   rintro e w12 ⟨A1, n1, c1, A2, n2, c2, A3, n3, c3, rfl, hl1, hl2, hl3, hr12, ht12⟩
   have HR12 : Hid (Rd w12 b k (rGL (rGL (rGL (rGL (rGL (rList 4 (rText (rList 5 (rEns j r1).1).1).1).1).1).1).1).1).1.1 (rGL (rGL (rGL (rGL (rGL (rList 4 (rText (rList 5 (rEns j r1).1).1).1).1).1).1).1).1).1.2) := hide hr12
   replace HR12 : Hid (Rd w12 b k (rEn (rEns j r1).1).1.1 (rEn (rEns j r1).1).1.2) := hide (by rw [rEn_fst]; exact HR12.out)
   replace HG := hide (HX11.out.call ht12 (by simp))
   have hsz12 : w.heap.size ≤ (w11.setCell ⟨g, 11, none⟩ (.slice At nt ct)).heap.size := Nat.le_trans HQ.out.size HX11.out.size
   have HL1 := hide (HLFc.out.touch ht12 (Nat.le_refl _) (by simpa using HBL.out))
   have HL2 := hide (HLTc.out.touch ht12 (Nat.le_refl _) (by simpa using HBL.out))
   have HL3 := hide (hl1.lower hsz12)
   have HL4 := hide (hl2.lower hsz12)
   have HL5' := hide (hl3.lower hsz12)
   clear hr12 ht12 hl1 hl2 hl3 hsz12 HLF2 HLT2 HLFc HLTc HTS11 HR11b HX11 HQ12 HG11 HBE11 c11 f11 hg0 hbw HX10 HQ11 HQ10 HR10b HLFb HTS10 HBE HQ8 HTS HR8
   obtain ⟨x0, x1, x2, x3, x4, hx5⟩ := list5 (rList_size 5 (rEns j r1).1)
   obtain ⟨y0, y1, y2, y3, hy4⟩ := list4 (rList_size 4 (rText (rList 5 (rEns j r1).1).1).1)
   obtain ⟨s5, hs5⟩ : ∃ s, (⟨(rText (rList 5 (rEns j r1).1).1).2.toArray⟩ : ByteArray) = s := ⟨_, rfl⟩
   have HCS : Hid (((cs9.set 10 (.slice Af nf cf)).set 11 (.slice At nt ct)).take 12 ++ [.slice A1 n1 c1, .slice A2 n2 c2, .slice A3 n3 c3] ++ ((cs9.set 10 (.slice Af nf cf)).set 11 (.slice At nt ct)).drop (12 + 3) = [.int .i64 x0, .int .i64 x1, .int .i64 x2, .int .i64 x3, .int .i64 x4, .string s5, .int .i64 y0, .int .i64 y1, .int .i64 y2, .int .i64 y3, .slice Af nf cf, .slice At nt ct, .slice A1 n1 c1, .slice A2 n2 c2, .slice A3 n3 c3]) := hide (by
    rw [← HC9.out, ← HC7.out, hx5, hy4, hs5]; rfl)
   have HEN2 : Hid ((rEn (rEns j r1).1).2 = { index := x0, term := x1, kind := x2, client := x3, number := x4, body := s5, gen := y0, step := y1, ck := y2, cm := y3, cf := (rGL (rList 4 (rText (rList 5 (rEns j r1).1).1).1).1).2, ct := (rGL (rGL (rList 4 (rText (rList 5 (rEns j r1).1).1).1).1).1).2, co := (rGL (rGL (rGL (rList 4 (rText (rList 5 (rEns j r1).1).1).1).1).1).1).2, cn := (rGL (rGL (rGL (rGL (rList 4 (rText (rList 5 (rEns j r1).1).1).1).1).1).1).1).2, cl := (rGL (rGL (rGL (rGL (rGL (rList 4 (rText (rList 5 (rEns j r1).1).1).1).1).1).1).1).1).2 }) := hide (by unfold rEn; simp only [hx5, hy4, hs5]; rfl)
   have HLC : Hid (((cs9.set 10 (.slice Af nf cf)).set 11 (.slice At nt ct)).length = 15) := hide (by rw [List.length_set, List.length_set, HL9.out])
   clear hx5 hy4 hs5
   have HLJ : Hid (css.length ≤ 1000000000) := hide (by have e1 := HEN.out.1; rw [rEns_size] at e1; have := HLT.out; have := HC2.out; omega)
   clear HR11 HR9 HR7 HR5
   go_wp2_with (first
    | ((with_reducible refine at_store 34 (.tmp 64) ?_); refine wpList_store_own_t HG.out rfl 34 (.tmp 64) (.tmp 62) rfl 0 _ 12 _ _ [.slice A1 n1 c1, .slice A2 n2 c2, .slice A3 n3 c3] _ rfl (.agg #[.slice A1 n1 c1, .slice A2 n2 c2, .slice A3 n3 c3]) rfl rfl (fits_agg _) (by rw [HLC.out]; exact Nat.le_refl 15) HCS.out size_cfg rfl ?_; intro WB hO hB hT; replace HG := hide hO; have HBB := hide hB; have HTB := hide hT; clear hO hB hT)
    | ((with_reducible refine at_load 116 (.tmp 4) ?_); refine wpList_load_own HG.out rfl 116 (.tmp 4) rfl 0 _ 0 15 _ _ _ _ rfl rfl rfl Try.underlying116 rfl size_entry ?_; refine Hid.out ?_))
   have hg0 := HG.out.new 0 rfl;have hbw := HR.out.lt
   have HR13 := hide (HR12.out.touch HTB.out (by simp only [List.mem_singleton]; omega) (fun y hy hm => by have := HKR.out y hy; simp only [List.mem_singleton] at hm; omega))
   have HNK : Hid (∀ s ∈ [g], s < w.heap.size ∨ ∀ cs, ¬ Blk w12 s 3 cs) := hide (fun s hs => .inr (by rw [List.mem_singleton.1 hs]; exact blk_kind HBB.out (by decide)))
   have HENB : Hid (EnAB WB w.heap.size [.int .i64 x0, .int .i64 x1, .int .i64 x2, .int .i64 x3, .int .i64 x4, .string s5, .int .i64 y0, .int .i64 y1, .int .i64 y2, .int .i64 y3, .slice Af nf cf, .slice At nt ct, .slice A1 n1 c1, .slice A2 n2 c2, .slice A3 n3 c3] (rEn (rEns j r1).1).2) := hide (by
    rw [HEN2.out]
    exact ⟨_, _, _, _, _, rfl, HL1.out.turn HTB.out (Nat.le_refl _) HNK.out, HL2.out.turn HTB.out (Nat.le_refl _) HNK.out, HL3.out.turn HTB.out (Nat.le_refl _) HNK.out, HL4.out.turn HTB.out (Nat.le_refl _) HNK.out, HL5'.out.turn HTB.out (Nat.le_refl _) HNK.out⟩)
   have HOE2 := hide (HOE.out.touch HG.out.touch (fun y hy => by have := (HOE.out.lt y hy).1; have := HBL.out; simp only [List.mem_singleton]; omega))
   have HEN3 := hide (HEN.out.turn HG.out.touch (fun s hs => by rw [List.mem_singleton.1 hs]; exact .inl HBL.out))
   have HQB := hide (HQ.out.call HG.out.touch (by simp))
   have HSB : Hid (w.heap.size ≤ WB.heap.size ∧ q < WB.heap.size) := hide ⟨Nat.le_trans HQ.out.size HG.out.size, (HQB.out.blk 0 rfl).lt⟩
   have HOK : Hid (∀ s ∈ u3.ownBlock.toList, w.heap.size ≤ s ∧ s ≠ q ∧ ∀ cs, ¬ Blk WB s 3 cs) := hide (fun s hs => ⟨(HOE2.out.lt s (by simpa using hs)).1, HQG.out s (by simpa using hs), OwE.kind HOE2.out s (by simpa using hs)⟩)
   have HSN1 : Hid ((rEns (j + 1) r1).1 = (rEn (rEns j r1).1).1) := hide rfl
   have HSN2 : Hid ((rEns (j + 1) r1).2 = (rEns j r1).2 ++ [(rEn (rEns j r1).1).2]) := hide rfl
   clear hg0 hbw HR12 HL1 HL2 HL3 HL4 HL5' HNK HEN2 HLC HCS HG HL5 HL7 HL9 HC7 HC9 HRA HRB HRC HRD HRE HTB HBB k0
   generalize (rEn (rEns j r1).1).2 = xn at HSN2 HENB
   generalize (rEn (rEns j r1).1).1 = rn at HSN1 HR13
   refine hide ?_
   go_wp2_with (first
    | ((with_reducible refine at_sliceV 37 1 _ ?_); refine Go.Great.wpList_buildSliceTo rfl 37 116 1 #[(0, .tmp 66)] rfl WB.heap.size rfl _ rfl Try.underlying37 ([.int .i64 x0, .int .i64 x1, .int .i64 x2, .int .i64 x3, .int .i64 x4, .string s5, .int .i64 y0, .int .i64 y1, .int .i64 y2, .int .i64 y3, .slice Af nf cf, .slice At nt ct, .slice A1 n1 c1, .slice A2 n2 c2, .slice A3 n3 c3] : List Value).toArray (by kernel_rfl) ?_)
    | (at_builtin; refine wpList_append_e rfl _ _ rfl (v := u3) (css := css) (cs := [.int .i64 x0, .int .i64 x1, .int .i64 x2, .int .i64 x3, .int .i64 x4, .string s5, .int .i64 y0, .int .i64 y1, .int .i64 y2, .int .i64 y3, .slice Af nf cf, .slice At nt ct, .slice A1 n1 c1, .slice A2 n2 c2, .slice A3 n3 c3]) rfl HOE2.out HSB.out.1 rfl rfl rfl HENB.out.one HLJ.out ?_; intro v' w' hn' hb' hq'; have HN' := hide hn'; have HB' := hide hb'; have HQ' := hide hq'; clear hn' hb' hq'))
   go_roundw
   case rel =>
    have E1 := (HEN3.out.turn HB'.out (fun s hs => .inr (HOK.out s hs).2.2)).snoc (HENB.out.turn HB'.out (fun s hs => .inr (HOK.out s hs).2.2))
    have E2 := HR13.out.touch HB'.out (fun hm => by have := (HOK.out _ hm).1; have := HBL.out; omega) (fun y hy hm => by have := (HOK.out _ hm).1; have := HK.out y hy; omega)
    have E3 := HQB.out.callN HB'.out (fun s hs => ⟨.inr (HOK.out s hs).1, by simpa using (HOK.out s hs).2.1⟩)
    refine ⟨j + 1, css ++ [[.int .i64 x0, .int .i64 x1, .int .i64 x2, .int .i64 x3, .int .i64 x4, .string s5, .int .i64 y0, .int .i64 y1, .int .i64 y2, .int .i64 y3, .slice Af nf cf, .slice At nt ct, .slice A1 n1 c1, .slice A2 n2 c2, .slice A3 n3 c3]], by go_num, HLT.out, HN'.out, by rw [HSN2.out]; exact E1, by rw [HSN1.out]; exact E2, E3, fun y hy => ?_⟩
    rcases HQ'.out with e | ⟨z, e, hz⟩
    ·exact HQG.out y (e ▸ hy)
    ·rw [e] at hy; injection hy with hy; have := HSB.out.2; omega
   case measure => have := HLT.out; simp [intOf]; omega
  ·obtain rfl : j = n := by omega
   have HT := hide HQ.out.touch;clear hlt hj
   go_wp2_with fail
   go_ret
   rw [HN.out, HRR.out]
   exact ⟨_, css, rfl, HOE.out, HEN.out, HR.out, HT.out⟩
end
end Go.Proofs.Ytpbgelhjbfckcaa
