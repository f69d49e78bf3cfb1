/- The writer's entries. -/
import Derived.Test.YtpbgelhjbfckcaaT09
import Derived.Test.YtpbgelhjbfckcaaT08
namespace Go.Proofs.Ytpbgelhjbfckcaa
open Go.ChangeShapes Go.WideShapes Go.ChangeAt Go.RowKit
set_option maxRecDepth 100000
set_option linter.unusedVariables false
set_option linter.unusedSimpArgs false

theorem li_row {w : World} {g : Nat} {l : List Int} (h : Blk w g 3 (l.map fun x => Value.int .i64 x).toArray) (hx : ∀ x ∈ l, I64 x) (hl : l.length ≤ 100) : Li w (.slice (some ⟨g, 0, none⟩) l.length l.length) l :=
  ⟨_, l.length, rfl, Nat.le_refl _, by unfold maxLen; omega, hx, fun _ => ⟨g, 0, rfl, h.lt, fun i hi => by rw [Nat.zero_add, h.cell i]; simp [hi]⟩⟩
theorem below_size {B : Nat} {a b : World} (h : Below B a b) (hb : B ≤ a.heap.size) : B ≤ b.heap.size := Nat.le_trans hb h.size
set_option maxHeartbeats 8000000 in
theorem entries_c (p B : Nat) (hB : B ≤ p) (k : Option Nat) (m : List UInt8) (v : Value) (l : List En) (w : World) (h : Wt w p k m) (hE : EnsIn w B v l) (hs : m.length + 20 * (totE l + l.length + 4) ≤ 8796093022208) :
    Calls Try.prog 97 #[at0 p, v] w (WtR w p k (m ++ (encI l.length ++ l.flatMap encE))) := by
  obtain ⟨A, n, c, rfl, hn, hnc, hcm⟩ := hE.form
  have H := hide h
  have HE := hide hE
  have HS := hide hs
  have HBP := hide hB
  have HBW : Hid (B ≤ w.heap.size) := hide (Nat.le_trans hB (Nat.le_of_lt h.lt))
  have HO := hide (Own.nil w [] (by simp))
  have HNI : Hid (I64 (n : Int)) := hide ⟨by omega, by omega⟩
  clear h hE hs hB
  go_enter Try.func97, Try.ntmps97
  go_wp2_with ((with_reducible refine at_sliceV 28 1 _ ?_); refine wpList_slice_ownV HO.out rfl 28 3 _ ([.int .i64 n]) rfl (by simp [Act.eval]) Try.underlying28 (by kernel_rfl) (by kernel_rfl) (by simp [Value.cells]) (by simp) (by simp) ?_; intro WA gl hO; replace HO := hide hO; clear hO)
  have hbl := HO.out.below
  have hBg := HO.out.blk 0 rfl
  have hW := H.out.step hbl
  refine (ints_c p k m _ [(n : Int)] WA hW (li_one hBg HNI.out) (fun _ j hj => by injection hj with hj; subst hj; exact hW.apart hBg (by decide) (by decide)) (by have := HS.out; show _ + 9 * 2 ≤ _; omega)).mono ?_
  rintro e w2 ⟨rfl, k2, hw2, ht2, hk2⟩
  have HT2 : Hid (Touch (p :: k.toList) w w2) := hide ((Touch.below hbl _).trans ht2)
  have HK2 : Hid (KN w k k2) := hide (hk2.mono hbl.size)
  have HW2 := hide hw2
  have HN9 : Hid (([(n : Int)].flatMap encI).length ≤ 9) := hide (by simpa using encI_len HNI.out)
  clear hw2 ht2 hk2 hW hBg hbl HO
  go_wp2_with fail
  go_loopw [14] (fun v14 wr => ∃ (j : Nat) (k' : Option Nat), v14 = .int .i64 j ∧ j ≤ n ∧ Wt wr p k' (m ++ ([(n : Int)].flatMap encI ++ (l.take j).flatMap encE)) ∧ Touch (p :: k.toList) w wr ∧ KN w k k' ∧ Below B w wr) (fun v14 _ => n - (intOf v14).toNat)
  case atStart => exact ⟨0, k2, rfl, Nat.zero_le _, by simpa using HW2.out, HT2.out, HK2.out, HT2.out.low HBP.out HBW.out (fun g hg => (H.out.k_lt g hg).1)⟩
  case round =>
    obtain ⟨j, k', rfl, hj, hw, ht, hk, hbl⟩ := hrel
    clear HW2 HT2 HK2
    by_cases hlt : j < n
    · have hjl : j < l.length := by rw [← hn.out]; exact hlt
      obtain ⟨g, o, cs, rfl, ⟨vf, vt, vo, vn, vl, rfl, hf1, hf2, hf3, hf4, hf5⟩, hra, hok⟩ := HE.out.at_ hbl j hjl
      have HSZ : Hid (m.length + ([(n : Int)].flatMap encI).length + ((l.take j).flatMap encE).length + 20 * (l[j].size) ≤ 8796093022208) := hide (by
        have h1 := encEs_len (l := l.take j) (fun x hx => by obtain ⟨_, _, _, _, _, h3, _⟩ := HE.out; exact h3 x (List.mem_of_mem_take hx))
        have h2 := totE_take l j hjl
        have := HS.out
        have := HN9.out
        omega)
      have HFL := hide (flat_snoc encE l j hjl)
      obtain ⟨A1, n1, c1, rfl, hn1, _, _⟩ := hf1.form
      obtain ⟨A2, n2, c2, rfl, hn2, _, _⟩ := hf2.form
      obtain ⟨A3, n3, c3, rfl, hn3, _, _⟩ := hf3.form
      obtain ⟨A4, n4, c4, rfl, hn4, _, _⟩ := hf4.form
      obtain ⟨A5, n5, c5, rfl, hn5, _, _⟩ := hf5.form
      generalize l[j] = x at *
      have HRA := hide hra
      have HF1 := hide hf1
      have HF2 := hide hf2
      have HF3 := hide hf3
      have HF4 := hide hf4
      have HF5 := hide hf5
      have HOK := hide hok
      have HW := hide hw
      have HT := hide ht
      have HK := hide hk
      have HBL := hide hbl
      have HJ := hide hlt
      have HO := hide (Own.nil wr [] (by simp))
      have hji : (j : Int) < (n : Int) := by omega
      clear hw ht hk hbl hra hf1 hf2 hf3 hf4 hf5 hok hjl hlt hj
      go_wp2_with (first
          | ((with_reducible refine at_load 116 (.tmp 16) ?_); refine wpList_load_mid rfl 116 (.tmp 16) rfl g (o + j * 15) rfl ([.int .i64 x.index, .int .i64 x.term, .int .i64 x.kind, .int .i64 x.client, .int .i64 x.number, .string x.body, .int .i64 x.gen, .int .i64 x.step, .int .i64 x.ck, .int .i64 x.cm, .slice A1 n1 c1, .slice A2 n2 c2, .slice A3 n3 c3, .slice A4 n4 c4, .slice A5 n5 c5]) _ HRA.out Try.underlying116 rfl size_entry ?_)
          | ((with_reducible refine at_alloc 116 ?_); refine wpList_alloc_own HO.out rfl 116 rfl ([zi, zi, zi, zi, zi, zs, zi, zi, zi, zi, zl, zl, zl, zl, zl]) info_entry ?_; intro WA b5 hO; replace HO := hide hO; clear hO)
          | ((with_reducible refine at_store 116 (.tmp 5) ?_); refine wpList_store_own HO.out rfl 116 (.tmp 5) _ rfl 0 _ 0 _ _ ([.int .i64 x.index, .int .i64 x.term, .int .i64 x.kind, .int .i64 x.client, .int .i64 x.number, .string x.body, .int .i64 x.gen, .int .i64 x.step, .int .i64 x.ck, .int .i64 x.cm, .slice A1 n1 c1, .slice A2 n2 c2, .slice A3 n3 c3, .slice A4 n4 c4, .slice A5 n5 c5]) ([.int .i64 x.index, .int .i64 x.term, .int .i64 x.kind, .int .i64 x.client, .int .i64 x.number, .string x.body, .int .i64 x.gen, .int .i64 x.step, .int .i64 x.ck, .int .i64 x.cm, .slice A1 n1 c1, .slice A2 n2 c2, .slice A3 n3 c3, .slice A4 n4 c4, .slice A5 n5 c5]) rfl (.agg ([.int .i64 x.index, .int .i64 x.term, .int .i64 x.kind, .int .i64 x.client, .int .i64 x.number, .string x.body, .int .i64 x.gen, .int .i64 x.step, .int .i64 x.ck, .int .i64 x.cm, .slice A1 n1 c1, .slice A2 n2 c2, .slice A3 n3 c3, .slice A4 n4 c4, .slice A5 n5 c5] : List Value).toArray) rfl rfl (fits_agg _) (by simp) rfl size_entry rfl ?_; intro WA hO; replace HO := hide hO; clear hO; have k5 : ∀ q, WA.cell? ⟨b5, q, none⟩ = ([.int .i64 x.index, .int .i64 x.term, .int .i64 x.kind, .int .i64 x.client, .int .i64 x.number, .string x.body, .int .i64 x.gen, .int .i64 x.step, .int .i64 x.ck, .int .i64 x.cm, .slice A1 n1 c1, .slice A2 n2 c2, .slice A3 n3 c3, .slice A4 n4 c4, .slice A5 n5 c5] : List Value)[q]? := HO.out.cells 0 rfl)
          | ((with_reducible refine at_load 114 (.tmp 18) ?_); refine wpList_load_own HO.out rfl 114 (.tmp 18) rfl 0 _ 2 13 _ _ ([.int .i64 x.kind, .int .i64 x.client, .int .i64 x.number, .string x.body, .int .i64 x.gen, .int .i64 x.step, .int .i64 x.ck, .int .i64 x.cm, .slice A1 n1 c1, .slice A2 n2 c2, .slice A3 n3 c3, .slice A4 n4 c4, .slice A5 n5 c5]) _ rfl rfl rfl Try.underlying114 rfl size_cmd ?_)
          | ((with_reducible refine at_alloc 114 ?_); refine wpList_alloc_own HO.out rfl 114 rfl ([zi, zi, zi, zs, zi, zi, zi, zi, zl, zl, zl, zl, zl]) info_cmd ?_; intro WA b6 hO; replace HO := hide hO; clear hO)
          | ((with_reducible refine at_store 114 (.tmp 6) ?_); refine wpList_store_own HO.out rfl 114 (.tmp 6) _ rfl 1 _ 0 _ _ ([.int .i64 x.kind, .int .i64 x.client, .int .i64 x.number, .string x.body, .int .i64 x.gen, .int .i64 x.step, .int .i64 x.ck, .int .i64 x.cm, .slice A1 n1 c1, .slice A2 n2 c2, .slice A3 n3 c3, .slice A4 n4 c4, .slice A5 n5 c5]) ([.int .i64 x.kind, .int .i64 x.client, .int .i64 x.number, .string x.body, .int .i64 x.gen, .int .i64 x.step, .int .i64 x.ck, .int .i64 x.cm, .slice A1 n1 c1, .slice A2 n2 c2, .slice A3 n3 c3, .slice A4 n4 c4, .slice A5 n5 c5]) rfl (.agg ([.int .i64 x.kind, .int .i64 x.client, .int .i64 x.number, .string x.body, .int .i64 x.gen, .int .i64 x.step, .int .i64 x.ck, .int .i64 x.cm, .slice A1 n1 c1, .slice A2 n2 c2, .slice A3 n3 c3, .slice A4 n4 c4, .slice A5 n5 c5] : List Value).toArray) rfl rfl (fits_agg _) (by simp) rfl size_cmd rfl ?_; intro WA hO; replace HO := hide hO; clear hO; have k6 : ∀ q, WA.cell? ⟨b6, q, none⟩ = ([.int .i64 x.kind, .int .i64 x.client, .int .i64 x.number, .string x.body, .int .i64 x.gen, .int .i64 x.step, .int .i64 x.ck, .int .i64 x.cm, .slice A1 n1 c1, .slice A2 n2 c2, .slice A3 n3 c3, .slice A4 n4 c4, .slice A5 n5 c5] : List Value)[q]? := HO.out.cells 1 rfl; replace k5 : ∀ q, WA.cell? ⟨b5, q, none⟩ = ([.int .i64 x.index, .int .i64 x.term, .int .i64 x.kind, .int .i64 x.client, .int .i64 x.number, .string x.body, .int .i64 x.gen, .int .i64 x.step, .int .i64 x.ck, .int .i64 x.cm, .slice A1 n1 c1, .slice A2 n2 c2, .slice A3 n3 c3, .slice A4 n4 c4, .slice A5 n5 c5] : List Value)[q]? := HO.out.cells 0 rfl)
          | ((with_reducible refine at_sliceV 28 5 _ ?_); refine wpList_slice_ownV HO.out rfl 28 3 _ ([.int .i64 x.index, .int .i64 x.term, .int .i64 x.kind, .int .i64 x.client, .int .i64 x.number]) rfl (by simp [Act.eval]) Try.underlying28 (by kernel_rfl) (by kernel_rfl) (by simp [Value.cells]) (by simp) (by simp) ?_; intro WA g5 hO; replace HO := hide hO; clear hO))
      have HB6 := hide (HO.out.blk 1 rfl)
      have HBG := hide (HO.out.blk 2 rfl)
      have hbw := HO.out.below
      replace HW := hide (HW.out.step hbw)
      have HT0 := hide (HT.out.trans (Touch.below hbw _))
      clear HT
      have HT := HT0
      clear HT0
      have HBR : Hid (Below B wr _) := hide (hbw.mono (below_size HBL.out HBW.out))
      have HLEN := hide HOK.out.lens
      clear hbw HO k5
      refine (ints_c p _ _ _ [x.index, x.term, x.kind, x.client, x.number] _ HW.out (li_row HBG.out (fun y hy => HOK.out.ints y (by simp only [List.mem_cons, List.not_mem_nil, or_false] at hy ⊢; omega)) (by simp)) (fun _ j hj => by injection hj with hj; subst hj; exact HW.out.apart HBG.out (by decide) (by decide)) (by have := HSZ.out; have h9 := HLEN.out; unfold En.size at this; simp only [List.length_append, List.length_cons, List.length_nil] at h9 this ⊢; omega)).mono ?_
      rintro e w3 ⟨rfl, kk3, hw2, ht2, hk2⟩
      replace HB6 := hide (HB6.out.touch ht2 (HW.out.apart HB6.out (by decide) (by decide)))
      replace HBR := hide (below_trans HBR.out (ht2.low HBP.out (Nat.le_trans HBW.out HT.out.size) (fun g hg => (HW.out.k_lt g hg).1)))
      have HT3 := hide (HT.out.kn HK.out ht2)
      replace HK := hide (HK.out.next HT.out.size hk2)
      clear HT
      have HT := HT3
      clear HT3
      replace HW := hide hw2
      clear hw2 ht2 hk2 k6
      have k6 : ∀ q, w3.cell? ⟨b6, q, none⟩ = ([.int .i64 x.kind, .int .i64 x.client, .int .i64 x.number, .string x.body, .int .i64 x.gen, .int .i64 x.step, .int .i64 x.ck, .int .i64 x.cm, .slice A1 n1 c1, .slice A2 n2 c2, .slice A3 n3 c3, .slice A4 n4 c4, .slice A5 n5 c5] : List Value)[q]? := fun q => (HB6.out.cell q).trans (by simp)
      go_wp2_with fail
      refine (text_c p _ _ x.body _ HW.out (by have := HSZ.out; have h9 := HLEN.out; unfold En.size at this; simp only [List.length_append, List.length_cons, List.length_nil] at h9 this ⊢; omega)).mono ?_
      rintro e w4 ⟨rfl, kk4, hw2, ht2, hk2⟩
      replace HB6 := hide (HB6.out.touch ht2 (HW.out.apart HB6.out (by decide) (by decide)))
      replace HBR := hide (below_trans HBR.out (ht2.low HBP.out (Nat.le_trans HBW.out HT.out.size) (fun g hg => (HW.out.k_lt g hg).1)))
      have HT4 := hide (HT.out.kn HK.out ht2)
      replace HK := hide (HK.out.next HT.out.size hk2)
      clear HT
      have HT := HT4
      clear HT4
      replace HW := hide hw2
      clear hw2 ht2 hk2 k6
      have k6 : ∀ q, w4.cell? ⟨b6, q, none⟩ = ([.int .i64 x.kind, .int .i64 x.client, .int .i64 x.number, .string x.body, .int .i64 x.gen, .int .i64 x.step, .int .i64 x.ck, .int .i64 x.cm, .slice A1 n1 c1, .slice A2 n2 c2, .slice A3 n3 c3, .slice A4 n4 c4, .slice A5 n5 c5] : List Value)[q]? := fun q => (HB6.out.cell q).trans (by simp)
      have HO := hide (Own.nil w4 [] (by simp))
      clear HBG
      go_wp2_with ((with_reducible refine at_sliceV 28 4 _ ?_); refine wpList_slice_ownV HO.out rfl 28 3 _ ([.int .i64 x.gen, .int .i64 x.step, .int .i64 x.ck, .int .i64 x.cm]) rfl (by simp [Act.eval]) Try.underlying28 (by kernel_rfl) (by kernel_rfl) (by simp [Value.cells]) (by simp) (by simp) ?_; intro WA g4 hO; replace HO := hide hO; clear hO)
      have HBG := hide (HO.out.blk 0 rfl)
      have hbw := HO.out.below
      replace HW := hide (HW.out.step hbw)
      replace HB6 := hide (HB6.out.step hbw)
      have HT0 := hide (HT.out.trans (Touch.below hbw _))
      replace HBR := hide (below_trans HBR.out (hbw.mono (Nat.le_trans HBW.out HT.out.size)))
      clear HT
      have HT := HT0
      clear HT0 hbw HO
      refine (ints_c p _ _ _ [x.gen, x.step, x.ck, x.cm] _ HW.out (li_row HBG.out (fun y hy => HOK.out.ints y (by simp only [List.mem_cons, List.not_mem_nil, or_false] at hy ⊢; omega)) (by simp)) (fun _ j hj => by injection hj with hj; subst hj; exact HW.out.apart HBG.out (by decide) (by decide)) (by have := HSZ.out; have h9 := HLEN.out; unfold En.size at this; simp only [List.length_append, List.length_cons, List.length_nil] at h9 this ⊢; omega)).mono ?_
      rintro e w5 ⟨rfl, kk5, hw2, ht2, hk2⟩
      replace HB6 := hide (HB6.out.touch ht2 (HW.out.apart HB6.out (by decide) (by decide)))
      replace HBR := hide (below_trans HBR.out (ht2.low HBP.out (Nat.le_trans HBW.out HT.out.size) (fun g hg => (HW.out.k_lt g hg).1)))
      have HT5 := hide (HT.out.kn HK.out ht2)
      replace HK := hide (HK.out.next HT.out.size hk2)
      clear HT
      have HT := HT5
      clear HT5
      replace HW := hide hw2
      clear hw2 ht2 hk2 k6
      have k6 : ∀ q, w5.cell? ⟨b6, q, none⟩ = ([.int .i64 x.kind, .int .i64 x.client, .int .i64 x.number, .string x.body, .int .i64 x.gen, .int .i64 x.step, .int .i64 x.ck, .int .i64 x.cm, .slice A1 n1 c1, .slice A2 n2 c2, .slice A3 n3 c3, .slice A4 n4 c4, .slice A5 n5 c5] : List Value)[q]? := fun q => (HB6.out.cell q).trans (by simp)
      clear HBG
      go_wp2_with fail
      refine (list_c p _ _ _ x.cf _ HW.out ((HF1.out.below HBR.out).li (Nat.le_trans HBW.out HT.out.size)) ((HF1.out.below HBR.out).apart HBP.out (fun g hg => (HW.out.k_lt g hg).1)) (by have := HSZ.out; have h9 := HLEN.out; unfold En.size at this; simp only [List.length_append, List.length_cons, List.length_nil] at h9 this ⊢; omega)).mono ?_
      rintro e w6 ⟨rfl, kk6, hw2, ht2, hk2⟩
      replace HB6 := hide (HB6.out.touch ht2 (HW.out.apart HB6.out (by decide) (by decide)))
      replace HBR := hide (below_trans HBR.out (ht2.low HBP.out (Nat.le_trans HBW.out HT.out.size) (fun g hg => (HW.out.k_lt g hg).1)))
      have HT6 := hide (HT.out.kn HK.out ht2)
      replace HK := hide (HK.out.next HT.out.size hk2)
      clear HT
      have HT := HT6
      clear HT6
      replace HW := hide hw2
      clear hw2 ht2 hk2 k6
      have k6 : ∀ q, w6.cell? ⟨b6, q, none⟩ = ([.int .i64 x.kind, .int .i64 x.client, .int .i64 x.number, .string x.body, .int .i64 x.gen, .int .i64 x.step, .int .i64 x.ck, .int .i64 x.cm, .slice A1 n1 c1, .slice A2 n2 c2, .slice A3 n3 c3, .slice A4 n4 c4, .slice A5 n5 c5] : List Value)[q]? := fun q => (HB6.out.cell q).trans (by simp)
      go_wp2_with fail
      refine (list_c p _ _ _ x.ct _ HW.out ((HF2.out.below HBR.out).li (Nat.le_trans HBW.out HT.out.size)) ((HF2.out.below HBR.out).apart HBP.out (fun g hg => (HW.out.k_lt g hg).1)) (by have := HSZ.out; have h9 := HLEN.out; unfold En.size at this; simp only [List.length_append, List.length_cons, List.length_nil] at h9 this ⊢; omega)).mono ?_
      rintro e w7 ⟨rfl, kk7, hw2, ht2, hk2⟩
      replace HB6 := hide (HB6.out.touch ht2 (HW.out.apart HB6.out (by decide) (by decide)))
      replace HBR := hide (below_trans HBR.out (ht2.low HBP.out (Nat.le_trans HBW.out HT.out.size) (fun g hg => (HW.out.k_lt g hg).1)))
      have HT7 := hide (HT.out.kn HK.out ht2)
      replace HK := hide (HK.out.next HT.out.size hk2)
      clear HT
      have HT := HT7
      clear HT7
      replace HW := hide hw2
      clear hw2 ht2 hk2 k6
      have k6 : ∀ q, w7.cell? ⟨b6, q, none⟩ = ([.int .i64 x.kind, .int .i64 x.client, .int .i64 x.number, .string x.body, .int .i64 x.gen, .int .i64 x.step, .int .i64 x.ck, .int .i64 x.cm, .slice A1 n1 c1, .slice A2 n2 c2, .slice A3 n3 c3, .slice A4 n4 c4, .slice A5 n5 c5] : List Value)[q]? := fun q => (HB6.out.cell q).trans (by simp)
      have HRG : Hid (w7.rangeAt b6 10 ([.slice A3 n3 c3, .slice A4 n4 c4, .slice A5 n5 c5] : List Value)) := hide (fun q v hq => by
        rw [k6]
        match q, hq with
        | 0, hq => simpa using hq
        | 1, hq => simpa using hq
        | 2, hq => simpa using hq
        | q + 3, hq => simp at hq)
      go_wp2_with ((with_reducible refine at_load 34 (.tmp 61) ?_); refine wpList_load_mid rfl 34 (.tmp 61) rfl b6 10 rfl ([.slice A3 n3 c3, .slice A4 n4 c4, .slice A5 n5 c5]) _ HRG.out Try.underlying34 rfl size_cfg ?_)
      clear HRG
      refine (config_c p _ _ _ _ _ x.co x.cn x.cl _ HW.out ⟨((HF3.out.below HBR.out).li (Nat.le_trans HBW.out HT.out.size)), ((HF4.out.below HBR.out).li (Nat.le_trans HBW.out HT.out.size)), ((HF5.out.below HBR.out).li (Nat.le_trans HBW.out HT.out.size))⟩ ((HF3.out.below HBR.out).apart HBP.out (fun g hg => (HW.out.k_lt g hg).1)) ((HF4.out.below HBR.out).apart HBP.out (fun g hg => (HW.out.k_lt g hg).1)) ((HF5.out.below HBR.out).apart HBP.out (fun g hg => (HW.out.k_lt g hg).1)) (by have := HSZ.out; have h9 := HLEN.out; unfold En.size at this; simp only [List.length_append, List.length_cons, List.length_nil] at h9 this ⊢; omega)).mono ?_
      rintro e w8 ⟨rfl, kk8, hw2, ht2, hk2⟩
      replace HB6 := hide (HB6.out.touch ht2 (HW.out.apart HB6.out (by decide) (by decide)))
      replace HBR := hide (below_trans HBR.out (ht2.low HBP.out (Nat.le_trans HBW.out HT.out.size) (fun g hg => (HW.out.k_lt g hg).1)))
      have HT8 := hide (HT.out.kn HK.out ht2)
      replace HK := hide (HK.out.next HT.out.size hk2)
      clear HT
      have HT := HT8
      clear HT8
      replace HW := hide hw2
      clear hw2 ht2 hk2 k6
      have k6 : ∀ q, w8.cell? ⟨b6, q, none⟩ = ([.int .i64 x.kind, .int .i64 x.client, .int .i64 x.number, .string x.body, .int .i64 x.gen, .int .i64 x.step, .int .i64 x.ck, .int .i64 x.cm, .slice A1 n1 c1, .slice A2 n2 c2, .slice A3 n3 c3, .slice A4 n4 c4, .slice A5 n5 c5] : List Value)[q]? := fun q => (HB6.out.cell q).trans (by simp)
      go_wp2_with fail
      go_roundw
      case rel =>
        refine ⟨j + 1, kk8, by go_num, HJ.out, ?_, HT.out, HK.out, below_trans HBL.out HBR.out⟩
        have := HW.out
        rw [HFL.out, show encE x = ([x.index, x.term, x.kind, x.client, x.number].flatMap encI) ++ (encT x.body ++ (([x.gen, x.step, x.ck, x.cm].flatMap encI) ++ (encQ x.cf ++ (encQ x.ct ++ encC x.co x.cn x.cl)))) from rfl]
        simpa only [List.append_assoc] using this
      case measure => have := HJ.out; simp [intOf]; omega
    · obtain rfl : j = n := by omega
      have HW : Hid (Wt wr p k' (m ++ (encI l.length ++ l.flatMap encE))) := hide (by
        rw [hn.out, List.take_length] at hw
        simpa using hw)
      have HT := hide ht
      have HK := hide hk
      clear hw ht hk hbl hlt hj
      go_wp2_with fail
      go_end0
      exact ⟨rfl, k', HW.out, HT.out, HK.out⟩
end Go.Proofs.Ytpbgelhjbfckcaa
/- EncodeMessage. -/
namespace Go.Proofs.Ytpbgelhjbfckcaa
open Go.ChangeShapes Go.WideShapes Go.ChangeAt Go.RowKit
set_option maxRecDepth 100000
set_option linter.unusedVariables false
set_option linter.unusedSimpArgs false

theorem info_writer : (Try.prog.info? 151).map (·.zero) = some (some (.agg ([.slice none 0 0] : List Value).toArray)) := by kernel_rfl
theorem EnsIn.below {w w' : World} {B : Nat} {v : Value} {l : List En} (h : EnsIn w B v l) (k : Below B w w') : EnsIn w' B v l := by
  obtain ⟨A, c, rfl, h1, h2, h3, h4⟩ := h
  refine ⟨A, c, rfl, h1, h2, h3, fun h0 => ?_⟩
  obtain ⟨g, o, rfl, hg, hc⟩ := h4 h0
  refine ⟨g, o, rfl, hg, fun i hi => ?_⟩
  obtain ⟨_, _, _, e, h5, h6, _⟩ := EnsIn.at_ ⟨_, c, rfl, h1, h2, h3, h4⟩ k i hi
  injection e with e; injection e with e1 e2; subst e1; subst e2
  exact ⟨_, h5, h6⟩
def encM (is : List Int) (gr dn : Bool) (d : ByteArray) (l : List En) : List UInt8 := is.flatMap encI ++ ([bb gr] ++ ([bb dn] ++ (encT d ++ (encI l.length ++ l.flatMap encE))))
set_option maxHeartbeats 8000000 in
theorem encodeM_c (i0 i1 i2 i3 i4 i5 i6 i7 i8 : Int) (gr dn : Bool) (A : Option Addr) (n c : Nat) (d : ByteArray) (l : List En) (w : World) (hI : ∀ y ∈ [i0, i1, i2, i3, i4, i5, i6, i7, i8], I64 y) (hE : EnsIn w w.heap.size (.slice A n c) l) (hs : 20 * (totE l + l.length + d.size + 40) ≤ 4398046511104) :
    Calls Try.prog 72 #[.agg ([.int .i64 i0, .int .i64 i1, .int .i64 i2, .int .i64 i3, .int .i64 i4, .int .i64 i5, .int .i64 i6, .int .i64 i7, .bool gr, .slice A n c, .int .i64 i8, .string d, .bool dn] : List Value).toArray] w fun e w' => e = .returned (.string ⟨(encM [i0, i1, i2, i3, i4, i5, i6, i7, i8] gr dn d l).toArray⟩) ∧ Below w.heap.size w w' := by
  have HI := hide hI
  have HE := hide hE
  have HS := hide hs
  have HL9 : Hid (([i0, i1, i2, i3, i4, i5, i6, i7, i8].flatMap encI).length ≤ 81) := hide (by simpa using flat_len hI)
  have HLD : Hid ((encT d).length ≤ 9 + d.size) := hide (encT_len d (by omega))
  have HO := hide (Own.nil w [] (by simp))
  clear hI hE hs
  go_enter Try.func72, Try.ntmps72
  go_wp2_with (first
    | ((with_reducible refine at_box 39 (.tmp 0) ?_); refine wpList_box_own HO.out rfl 39 (.tmp 0) rfl ([.int .i64 i0, .int .i64 i1, .int .i64 i2, .int .i64 i3, .int .i64 i4, .int .i64 i5, .int .i64 i6, .int .i64 i7, .bool gr, .slice A n c, .int .i64 i8, .string d, .bool dn]) rfl ?_; intro WA b1 hO; replace HO := hide hO; clear hO)
    | ((with_reducible refine at_alloc 151 ?_); refine wpList_alloc_own HO.out rfl 151 rfl ([.slice none 0 0]) info_writer ?_; intro WA p hO; replace HO := hide hO; clear hO; have k1 : ∀ q, WA.cell? ⟨b1, q, none⟩ = ([.int .i64 i0, .int .i64 i1, .int .i64 i2, .int .i64 i3, .int .i64 i4, .int .i64 i5, .int .i64 i6, .int .i64 i7, .bool gr, .slice A n c, .int .i64 i8, .string d, .bool dn] : List Value)[q]? := HO.out.cells 0 rfl)
    | ((with_reducible refine at_sliceV 28 9 _ ?_); refine wpList_slice_ownV HO.out rfl 28 3 _ ([.int .i64 i0, .int .i64 i1, .int .i64 i2, .int .i64 i3, .int .i64 i4, .int .i64 i5, .int .i64 i6, .int .i64 i7, .int .i64 i8]) rfl (by simp [Act.eval]) Try.underlying28 (by kernel_rfl) (by kernel_rfl) (by simp [Value.cells]) (by simp) (by simp) ?_; intro WA g9 hO; replace HO := hide hO; clear hO))
  have HB1 := hide (HO.out.blk 0 rfl)
  have HBG := hide (HO.out.blk 2 rfl)
  have HWP : Hid (w.heap.size ≤ p) := hide (HO.out.has (p, 151, [.slice none 0 0]) (by simp)).2
  have HBR := hide HO.out.below
  have HW : Hid (Wt _ p none []) := hide ⟨_, HO.out.blk 1 rfl, Ow.nil _ _, rfl⟩
  clear HO k1
  have k1 := trivial
  refine (ints_c p none [] _ [i0, i1, i2, i3, i4, i5, i6, i7, i8] _ HW.out (li_row HBG.out (fun y hy => HI.out y hy) (by simp)) (fun _ j hj => by injection hj with hj; subst hj; exact HW.out.apart HBG.out (by decide) (by decide)) (by simp)).mono ?_
  rintro e w3 ⟨rfl, kk3, hw2, ht2, hk2⟩
  replace HB1 := hide (HB1.out.touch ht2 (HW.out.apart HB1.out (by decide) (by decide)))
  replace HBR := hide (below_trans HBR.out (ht2.low HWP.out (below_size HBR.out (Nat.le_refl _)) (fun g hg => (HW.out.k_lt g hg).1 |> fun h => Nat.lt_of_lt_of_le h (Nat.le_refl _))))
  replace HW := hide hw2
  clear hw2 ht2 hk2 k1
  have k1 : ∀ q, w3.cell? ⟨b1, q, none⟩ = ([.int .i64 i0, .int .i64 i1, .int .i64 i2, .int .i64 i3, .int .i64 i4, .int .i64 i5, .int .i64 i6, .int .i64 i7, .bool gr, .slice A n c, .int .i64 i8, .string d, .bool dn] : List Value)[q]? := fun q => (HB1.out.cell q).trans (by simp)
  clear HBG
  obtain ⟨v, hB, ho, hkv⟩ := HW.out
  obtain ⟨c0, f0⟩ := wt_cells hB
  obtain ⟨Av, nv, cv, rfl, _, _, _⟩ := ho.formN
  have HBB := hide hB
  have HO := hide ho
  have HB1L := hide HB1.out.lt
  have HWP3 : Hid (w.heap.size ≤ w3.heap.size) := hide HBR.out.size
  have HKL : Hid (∀ g, (Value.slice Av nv cv).ownBlock = some g → p < g) := hide (fun g hg => (HW.out.k_lt g (by rw [← hkv]; exact hg)).1)
  have HBP1 : Hid (b1 ≠ p) := hide (fun e => by have := HW.out.apart HB1.out (by decide) (by decide); exact this (by simp [e]))
  have HWA : Hid ((some b1 = (Value.slice Av nv cv).ownBlock → False) ∧ (some p = (Value.slice Av nv cv).ownBlock → False)) := hide ⟨fun e => by have := HW.out.apart HB1.out (by decide) (by decide); rw [← hkv] at this; exact this (by simp [← e]), fun e => by have := (ho.lt p e.symm).1; omega⟩
  clear hB ho
  go_wp2_with fail
  refine wp_region_held_drew (S := fun W => ∀ q, W.cell? ⟨b1, q, none⟩ = ([.int .i64 i0, .int .i64 i1, .int .i64 i2, .int .i64 i3, .int .i64 i4, .int .i64 i5, .int .i64 i6, .int .i64 i7, .bool gr, .slice A n c, .int .i64 i8, .string d, .bool dn] : List Value)[q]?) (by kernel_rfl) (k1) (fun hS0 => ?_)
  replace HB1 : Hid (Blk _ b1 _ _) := hide (HB1.out.step (below_drew _))
  replace HBB : Hid (Blk _ p _ _) := hide (HBB.out.step (below_drew _))
  replace HO : Hid (Ow _ (p + 1) _ _) := hide (HO.out.step (below_drew _))
  refine wpAnyH_take (i := 0) (v := ?vea0) rfl (by kernel_rfl) (by kernel_rfl) (by kernel_rfl) (fun _ _ _ h => h) (Or.inl ⟨by rfl, ?hyea0⟩) (by assumption) ?restea0
  case hyea0 => (intro w hSw; (try dsimp only at hSw); go_simp; first | done | (with_reducible rfl))
  try simp only [Act.put, List.getElem_toArray, List.getElem_cons_zero, List.getElem_cons_succ, List.setIfInBounds_toArray, List.set_cons_zero, List.set_cons_succ]
  refine wpAnyH_take (i := 2) (v := ?vea1) rfl (by kernel_rfl) (by kernel_rfl) (by kernel_rfl) (fun _ _ _ h => h) (Or.inl ⟨by rfl, ?hyea1⟩) (by assumption) ?restea1
  case hyea1 => (intro w hSw; (try dsimp only at hSw); go_simp; first | done | (with_reducible rfl))
  try simp only [Act.put, List.getElem_toArray, List.getElem_cons_zero, List.getElem_cons_succ, List.setIfInBounds_toArray, List.set_cons_zero, List.set_cons_succ]
  refine wpAnyH_take (i := 3) (v := ?vea2) rfl (by kernel_rfl) (by kernel_rfl) (by kernel_rfl) (fun _ _ _ h => h) (Or.inl ⟨by rfl, ?hyea2⟩) (by assumption) ?restea2
  case hyea2 => (intro w hSw; (try dsimp only at hSw); go_simp; first | done | (with_reducible rfl))
  try simp only [Act.put, List.getElem_toArray, List.getElem_cons_zero, List.getElem_cons_succ, List.setIfInBounds_toArray, List.set_cons_zero, List.set_cons_succ]
  refine wpAnyH_take (i := 5) (v := ?vea3) rfl (by kernel_rfl) (by kernel_rfl) (by kernel_rfl) (fun _ _ _ h => h) (Or.inl ⟨by rfl, ?hyea3⟩) (by assumption) ?restea3
  case hyea3 => (intro w hSw; (try dsimp only at hSw); go_simp; first | done | (with_reducible rfl))
  try simp only [Act.put, List.getElem_toArray, List.getElem_cons_zero, List.getElem_cons_succ, List.setIfInBounds_toArray, List.set_cons_zero, List.set_cons_succ]
  refine wpAnyH_take (i := 6) (v := ?vea4) rfl (by kernel_rfl) (by kernel_rfl) (by kernel_rfl) (fun _ _ _ h => h) (Or.inl ⟨by rfl, ?hyea4⟩) (by assumption) ?restea4
  case hyea4 => (intro w hSw; (try dsimp only at hSw); go_simp; first | done | (with_reducible rfl))
  try simp only [Act.put, List.getElem_toArray, List.getElem_cons_zero, List.getElem_cons_succ, List.setIfInBounds_toArray, List.set_cons_zero, List.set_cons_succ]
  refine wpAnyH_ready (rs := [1]) (by kernel_rfl) (by simp) ?_
  refine AllReadyH.cons rfl (fun K hK => ?_) AllReadyH.nil
  go_simp
  refine hK.out _ _ (k1) (fun hS5 => ?_)
  clear hK K
  try simp only [Act.put, List.getElem_toArray, List.getElem_cons_zero, List.getElem_cons_succ, List.setIfInBounds_toArray, List.set_cons_zero, List.set_cons_succ]
  refine wpAnyH_ready (rs := [4]) (by kernel_rfl) (by simp) ?_
  refine AllReadyH.cons rfl (fun K hK => ?_) AllReadyH.nil
  go_simp
  refine (appendBool_c (p + 1) _ _ gr _ HO.out (by have := HS.out; have := HL9.out; simp only [List.length_append, List.length_nil] at *; omega) HBB.out.lt).mono ?_
  rintro e w4 ⟨v4, rfl, ho4, _, hg4, ha4⟩
  replace HB1 := hide (HB1.out.grown hg4 (fun e => (HWA.out.1 e)))
  have HBB4 := hide (HBB.out.grown hg4 (fun e => (HWA.out.2 e)))
  have HO4 := hide ho4
  have HG4 := hide hg4
  have HA4 := hide ha4
  have HB1N : Hid (some b1 = v4.ownBlock → False) := hide (fun e => by rcases ha4 with h | ⟨g, h, hg⟩ <;> rw [h] at e <;> first | exact HWA.out.1 e | (injection e with e; have := HB1L.out; have hg : w3.heap.size ≤ g := hg; omega))
  obtain ⟨A4, n4, c4, rfl, _, _, _⟩ := ho4.formN
  clear ho4 hg4 ha4 k1 c0 f0
  have k1 : ∀ q, w4.cell? ⟨b1, q, none⟩ = ([.int .i64 i0, .int .i64 i1, .int .i64 i2, .int .i64 i3, .int .i64 i4, .int .i64 i5, .int .i64 i6, .int .i64 i7, .bool gr, .slice A n c, .int .i64 i8, .string d, .bool dn] : List Value)[q]? := fun q => (HB1.out.cell q).trans (by simp)
  refine hK.out _ _ (k1) (fun hS6 => ?_)
  clear hK K
  try simp only [Act.put, List.getElem_toArray, List.getElem_cons_zero, List.getElem_cons_succ, List.setIfInBounds_toArray, List.set_cons_zero, List.set_cons_succ]
  refine wpAnyH_ready (rs := [7]) (by kernel_rfl) (by simp) ?_
  refine AllReadyH.cons rfl (fun K hK => ?_) AllReadyH.nil
  go_simp
  refine (appendBool_c (p + 1) _ _ dn w4 HO4.out (by have := HS.out; have := HL9.out; simp only [List.length_append, List.length_nil, List.length_cons] at *; omega) HBB4.out.lt).mono ?_
  rintro e w5 ⟨v5, rfl, ho5, _, hg5, ha5⟩
  have HG5 := hide (grown_next HG4.out hg5 HA4.out)
  have HA5 := hide (own_next HG4.out.size HA4.out ha5)
  have hb1 := HB1.out.grown hg5 (fun e => HB1N.out e)
  replace HB1 := hide hb1
  have hbb5 := HBB4.out.grown hg5 (fun e => by have := (HO4.out.lt p e.symm).1; omega)
  obtain ⟨c5, f5⟩ := wt_cells hbb5
  have HBB5 := hide hbb5
  have HO5 := hide ho5
  obtain ⟨A5, n5, cc5, rfl, _, _, _⟩ := ho5.formN
  clear ho5 hg5 ha5 k1 hb1 hbb5
  have k1 : ∀ q, w5.cell? ⟨b1, q, none⟩ = ([.int .i64 i0, .int .i64 i1, .int .i64 i2, .int .i64 i3, .int .i64 i4, .int .i64 i5, .int .i64 i6, .int .i64 i7, .bool gr, .slice A n c, .int .i64 i8, .string d, .bool dn] : List Value)[q]? := fun q => (HB1.out.cell q).trans (by simp)
  refine hK.out _ _ (k1) (fun hS7 => ?_)
  clear hK K
  try simp only [Act.put, List.getElem_toArray, List.getElem_cons_zero, List.getElem_cons_succ, List.setIfInBounds_toArray, List.set_cons_zero, List.set_cons_succ]
  refine wpAnyH_take (i := 8) (v := ?vea8) rfl (by kernel_rfl) (by kernel_rfl) (by kernel_rfl) (fun _ _ _ h => h) (Or.inl ⟨by rfl, ?hyea8⟩) (by assumption) ?restea8
  case hyea8 => (intro w hSw; (try dsimp only at hSw); go_simp; first | done | (with_reducible rfl))
  try simp only [Act.put, List.getElem_toArray, List.getElem_cons_zero, List.getElem_cons_succ, List.setIfInBounds_toArray, List.set_cons_zero, List.set_cons_succ]
  refine wpAnyH_ready (rs := [9]) (by kernel_rfl) (by simp) ?_
  refine AllReadyH.cons rfl (fun K hK => ?_) AllReadyH.nil
  go_simp
  have HW6 := hide (Wt.append HBB.out HO.out HO5.out HG5.out HA5.out (w2 := w5.setCell ⟨p, 0, none⟩ (.slice A5 n5 cc5)) (by simpa using HBB5.out.put 0 (.slice A5 n5 cc5)) ((Touch.refl [p] w5).set (.inl (by simp)) 0 _))
  replace HB1 := hide (HB1.out.touch (show Touch [p] w5 (w5.setCell ⟨p, 0, none⟩ (.slice A5 n5 cc5)) from (Touch.refl [p] w5).set (.inl (by simp)) 0 _) (by simpa using HBP1.out))
  clear k1
  have k1 : ∀ q, (w5.setCell ⟨p, 0, none⟩ (.slice A5 n5 cc5)).cell? ⟨b1, q, none⟩ = ([.int .i64 i0, .int .i64 i1, .int .i64 i2, .int .i64 i3, .int .i64 i4, .int .i64 i5, .int .i64 i6, .int .i64 i7, .bool gr, .slice A n c, .int .i64 i8, .string d, .bool dn] : List Value)[q]? := fun q => (HB1.out.cell q).trans (by simp)
  clear c5 f5
  refine hK.out _ _ (k1) (fun hS9 => ?_)
  clear hK K
  try simp only [Act.put, List.getElem_toArray, List.getElem_cons_zero, List.getElem_cons_succ, List.setIfInBounds_toArray, List.set_cons_zero, List.set_cons_succ]
  refine wpAnyH_done (by kernel_rfl) ?_ _
  clear hS0
  go_wp2_with fail
  have HBR6 := hide (below_trans (show Below w.heap.size w w3.drew from ⟨HBR.out.os, HBR.out.tape, HBR.out.output, HBR.out.size, HBR.out.block⟩) (HW6.out.2.1.low HWP.out HWP3.out (fun g hg => HKL.out g hg)))
  replace HBR := HBR6
  replace HW := hide HW6.out.1
  clear HBR6 HBB HO HBB5 HO5 HG5 HA5 HB1N HBB4 HO4 HG4 HA4 HWA HW6 HKL
  refine (text_c p _ _ d _ HW.out (by have := HS.out; have := HL9.out; simp only [List.length_append, List.length_cons, List.length_nil] at *; omega)).mono ?_
  rintro e w7 ⟨rfl, kk7, hw2, ht2, hk2⟩
  replace HB1 := hide (HB1.out.touch ht2 (HW.out.apart HB1.out (by decide) (by decide)))
  replace HBR := hide (below_trans HBR.out (ht2.low HWP.out (below_size HBR.out (Nat.le_refl _)) (fun g hg => (HW.out.k_lt g hg).1 |> fun h => Nat.lt_of_lt_of_le h (Nat.le_refl _))))
  replace HW := hide hw2
  clear hw2 ht2 hk2 k1
  have k1 : ∀ q, w7.cell? ⟨b1, q, none⟩ = ([.int .i64 i0, .int .i64 i1, .int .i64 i2, .int .i64 i3, .int .i64 i4, .int .i64 i5, .int .i64 i6, .int .i64 i7, .bool gr, .slice A n c, .int .i64 i8, .string d, .bool dn] : List Value)[q]? := fun q => (HB1.out.cell q).trans (by simp)
  go_wp2_with fail
  refine (entries_c p w.heap.size HWP.out _ _ _ l _ HW.out (HE.out.below HBR.out) (by have := HS.out; have h9 := HL9.out; have h8 := HLD.out; simp only [List.length_append, List.length_cons, List.length_nil] at h9 this ⊢; omega)).mono ?_
  rintro e w8 ⟨rfl, kk8, hw2, ht2, hk2⟩
  replace HB1 := hide (HB1.out.touch ht2 (HW.out.apart HB1.out (by decide) (by decide)))
  replace HBR := hide (below_trans HBR.out (ht2.low HWP.out (below_size HBR.out (Nat.le_refl _)) (fun g hg => (HW.out.k_lt g hg).1 |> fun h => Nat.lt_of_lt_of_le h (Nat.le_refl _))))
  replace HW := hide hw2
  clear hw2 ht2 hk2 k1
  have k1 : ∀ q, w8.cell? ⟨b1, q, none⟩ = ([.int .i64 i0, .int .i64 i1, .int .i64 i2, .int .i64 i3, .int .i64 i4, .int .i64 i5, .int .i64 i6, .int .i64 i7, .bool gr, .slice A n c, .int .i64 i8, .string d, .bool dn] : List Value)[q]? := fun q => (HB1.out.cell q).trans (by simp)
  clear HB1
  obtain ⟨v, hB, ho, hkv⟩ := HW.out
  obtain ⟨c0, f0⟩ := wt_cells hB
  obtain ⟨Av, nv, cv, rfl, _, _, _⟩ := ho.formN
  have hst := run_string_bs ho.bs
  go_wp2_with fail
  go_ret
  exact ⟨by simp [encM, List.append_assoc], HBR.out⟩
end Go.Proofs.Ytpbgelhjbfckcaa
/- What the message of a group writes. -/
namespace Go.Proofs.Ytpbgelhjbfckcaa
open Go.ChangeShapes Go.WideShapes Go.ChangeAt Go.RowKit
set_option maxRecDepth 100000
set_option linter.unusedVariables false
set_option linter.unusedSimpArgs false

def mOffs : List Nat := [34, 35, 36, 37, 38, 39, 40, 41, 44]
theorem EnC.mono {w : World} {B B' : Nat} {cs : List Value} {x : En} (h : EnC w B cs x) (hb : B ≤ B') : EnC w B' cs x := by
  obtain ⟨vf, vt, vo, vn, vl, e, h1, h2, h3, h4, h5⟩ := h
  exact ⟨vf, vt, vo, vn, vl, e, h1.mono hb, h2.mono hb, h3.mono hb, h4.mono hb, h5.mono hb⟩
theorem EnsIn.mono {w : World} {B B' : Nat} {v : Value} {l : List En} (h : EnsIn w B v l) (hb : B ≤ B') : EnsIn w B' v l := by
  obtain ⟨A, c, e, h1, h2, h3, h4⟩ := h
  refine ⟨A, c, e, h1, h2, h3, fun h0 => ?_⟩
  obtain ⟨g, o, e1, hg, hc⟩ := h4 h0
  exact ⟨g, o, e1, by omega, fun i hi => by obtain ⟨cs, h5, h6⟩ := hc i hi; exact ⟨cs, h5.mono hb, h6⟩⟩
theorem encM_len {is : List Int} {gr dn : Bool} {d : ByteArray} {l : List En} (hI : ∀ y ∈ is, I64 y) (hn : is.length ≤ 9) (hE : ∀ x ∈ l, x.Ok) (hl : l.length < 2 ^ 60) (hd : d.size < 2 ^ 60) : (encM is gr dn d l).length ≤ 20 * (totE l + l.length + d.size + 10) := by
  unfold encM
  have h1 := flat_len hI
  have h2 := encT_len d hd
  have h3 := encEs_len hE
  have h4 := encI_len (x := (l.length : Int)) ⟨by omega, by omega⟩
  simp only [List.length_append, List.length_cons, List.length_nil]
  omega
section
variable {w : World} {base : Nat} {L : LB} {b bm : Nat} {cs : List Value}
theorem mwrite_c (h : FB w base L b bm cs) (hT : MsgT cs) (hI : ∀ o ∈ mOffs, I64 (numAt cs o)) {l : List En} (hE : EnsIn w base (slAt cs 43) l) (hs : 20 * (totE l + l.length + (strAt cs 45).size + 40) ≤ 4398046511104) :
    Writes w 71 [at0 bm] base (encT ⟨(encM (mOffs.map (numAt cs)) (boolAt cs 42) (boolAt cs 46) (strAt cs 45) l).toArray⟩) := by
  intro v l0 ho hb hl
  have h1 := h.box h.bm
  obtain ⟨i0, k0⟩ := hT.ints 34 (by decide)
  obtain ⟨i1, k1⟩ := hT.ints 35 (by decide)
  obtain ⟨i2, k2⟩ := hT.ints 36 (by decide)
  obtain ⟨i3, k3⟩ := hT.ints 37 (by decide)
  obtain ⟨i4, k4⟩ := hT.ints 38 (by decide)
  obtain ⟨i5, k5⟩ := hT.ints 39 (by decide)
  obtain ⟨i6, k6⟩ := hT.ints 40 (by decide)
  obtain ⟨i7, k7⟩ := hT.ints 41 (by decide)
  obtain ⟨i8, k8⟩ := hT.ints 44 (by decide)
  obtain ⟨gr, k9⟩ := hT.gr
  obtain ⟨dn, k10⟩ := hT.dn
  obtain ⟨d, k11⟩ := hT.data
  obtain ⟨A, n, c, k12⟩ := hT.slices 43 (by decide)
  have hmap : mOffs.map (numAt cs) = [i0, i1, i2, i3, i4, i5, i6, i7, i8] := by
    show [numAt cs 34, numAt cs 35, numAt cs 36, numAt cs 37, numAt cs 38, numAt cs 39, numAt cs 40, numAt cs 41, numAt cs 44] = _
    rw [numAt_eq k0, numAt_eq k1, numAt_eq k2, numAt_eq k3, numAt_eq k4, numAt_eq k5, numAt_eq k6, numAt_eq k7, numAt_eq k8]
  have HI : Hid (∀ y ∈ [i0, i1, i2, i3, i4, i5, i6, i7, i8], I64 y) := hide (by
    rw [← hmap]
    intro y hy
    obtain ⟨o, ho, rfl⟩ := List.mem_map.1 hy
    exact hI o ho)
  rw [slAt_eq k12] at hE
  rw [strAt_eq k11] at hs
  rw [hmap, boolAt_eq k9, boolAt_eq k10, strAt_eq k11]
  have HG : Hid (w.rangeAt b 34 ([.int .i64 i0, .int .i64 i1, .int .i64 i2, .int .i64 i3, .int .i64 i4, .int .i64 i5, .int .i64 i6, .int .i64 i7, .bool gr, .slice A n c, .int .i64 i8, .string d, .bool dn] : List Value)) := hide (by
    have hc := h.cell
    intro j v hj
    match j, hj with
    | 0, hj => simp at hj; subst hj; exact (hc 34).trans k0
    | 1, hj => simp at hj; subst hj; exact (hc 35).trans k1
    | 2, hj => simp at hj; subst hj; exact (hc 36).trans k2
    | 3, hj => simp at hj; subst hj; exact (hc 37).trans k3
    | 4, hj => simp at hj; subst hj; exact (hc 38).trans k4
    | 5, hj => simp at hj; subst hj; exact (hc 39).trans k5
    | 6, hj => simp at hj; subst hj; exact (hc 40).trans k6
    | 7, hj => simp at hj; subst hj; exact (hc 41).trans k7
    | 8, hj => simp at hj; subst hj; exact (hc 42).trans k9
    | 9, hj => simp at hj; subst hj; exact (hc 43).trans k12
    | 10, hj => simp at hj; subst hj; exact (hc 44).trans k8
    | 11, hj => simp at hj; subst hj; exact (hc 45).trans k11
    | 12, hj => simp at hj; subst hj; exact (hc 46).trans k10
    | j + 13, hj => simp at hj)
  have HE := hide hE
  have HS := hide hs
  have HO := hide ho
  have HB := hide hb
  have HL := hide hl
  have HOK : Hid ((∀ x ∈ l, x.Ok) ∧ l.length < 2 ^ 60) := hide (by obtain ⟨_, _, _, _, _, h3, _⟩ := hE; exact ⟨h3, by omega⟩)
  have HM : Hid ((encM [i0, i1, i2, i3, i4, i5, i6, i7, i8] gr dn d l).length ≤ 20 * (totE l + l.length + d.size + 10)) := hide (encM_len HI.out (by simp) HOK.out.1 HOK.out.2 (by omega))
  clear ho hb hl hE hs h hT hI hmap k0 k1 k2 k3 k4 k5 k6 k7 k8 k9 k10 k11 k12
  show Calls Try.prog _ #[v, at0 bm] w _
  go_enter Try.func71, Try.ntmps71
  go_wp2_with (refine wpList_load_mid rfl 39 (.tmp 7) rfl b 34 rfl ([.int .i64 i0, .int .i64 i1, .int .i64 i2, .int .i64 i3, .int .i64 i4, .int .i64 i5, .int .i64 i6, .int .i64 i7, .bool gr, .slice A n c, .int .i64 i8, .string d, .bool dn]) _ HG.out Try.underlying39 rfl size_gm ?_)
  refine (encodeM_c i0 i1 i2 i3 i4 i5 i6 i7 i8 gr dn A n c d l w HI.out (HE.out.mono HB.out) HS.out).mono ?_
  rintro e w1 ⟨rfl, hb1⟩
  have HO1 := hide (HO.out.step hb1)
  have HBL := hide (hb1.mono HB.out)
  have HB1 := hide (Nat.le_trans HB.out hb1.size)
  clear hb1
  go_wp2_with fail
  refine (appendText_c base v l0 _ w1 HO1.out (by have := HL.out; omega) (by have := HM.out; have := HS.out; show (List.toArray _).size ≤ _; rw [List.size_toArray]; omega) HB1.out).mono ?_
  rintro e w2 ha
  obtain ⟨v2, rfl, ho2, hb2, hs2⟩ := ha.app HO1.out HB1.out
  have HO2 := hide ho2
  have HB2 := hide (below_trans HBL.out hb2)
  have HS2 := hide (Nat.le_trans HBL.out.size hs2)
  clear ha ho2 hb2 hs2
  go_wp2_with fail
  go_ret
  exact ⟨_, rfl, HO2.out, HB2.out, HS2.out⟩
end
end Go.Proofs.Ytpbgelhjbfckcaa
/- Valid: what it says of a message; the table while names are struck. -/
namespace Go.Proofs.Ytpbgelhjbfckcaa
open Go.ChangeMaps Go.ChangeShapes Go.WideShapes Go.ChangeAt Go.RowKit
open Go.Maps (Keyed IsMap)
set_option maxRecDepth 100000
set_option linter.unusedVariables false
set_option linter.unusedSimpArgs false

/-- The fields that the kinds use. -/
def useIdx : List (List Nat) := [[13], [0, 1, 2, 7], [0, 1, 2, 3, 7, 4], [0, 5, 6, 9], [0, 5, 6, 3, 4], [5, 6, 10], [5, 6, 3, 8], [0], [0, 3, 12], [0, 1, 2, 8], [0, 1, 2, 3, 8], [11]]
theorem useList_idx : useList = useIdx.map fun ix => ix.map fname := by decide
theorem useIdx_ok : ∀ ix ∈ useIdx, (∀ i ∈ ix, i < 14) ∧ ix.Nodup := by decide
theorem useIdx_len : ∀ ix ∈ useIdx, ix.length ≤ 14 := by decide
def usedIx (cs : List Value) : Option (List Nat) := if 0 ≤ numAt cs 0 then useIdx[(numAt cs 0).toNat]? else none
/-- A message is valid. -/
def validP (cs : List Value) (ml : List Int) : Bool :=
  match usedIx cs with
  | none => false
  | some ix => ix.all (vF cs ml) && (List.range 14).all fun k => ix.contains k || zF cs k
theorem useList_get {j : Nat} {l : List ByteArray} (h : useList[j]? = some l) : ∃ ix, useIdx[j]? = some ix ∧ l = ix.map fname ∧ (∀ i ∈ ix, i < 14) ∧ ix.Nodup := by
  rw [useList_idx, List.getElem?_map] at h
  obtain ⟨ix, h1, rfl⟩ := Option.map_eq_some_iff.1 h
  obtain ⟨h2, h3⟩ := useIdx_ok ix (List.mem_of_getElem? h1)
  exact ⟨ix, h1, rfl, h2, h3⟩
/-- The table, without the names that are struck. -/
def DOk (D : DataW Value) (L : LB) (b bm : Nat) (used : List Nat) : Prop :=
  (∀ k, k < 14 → k ∉ used → Go.Maps.has D (flit k) = true ∧ ∃ v, (∀ z, D.atKey (flit k) z = .held v) ∧ FValI L b bm k v) ∧ (∀ kl, Go.Maps.has D kl = true → ∃ k, k < 14 ∧ k ∉ used ∧ kl = flit k)
theorem flit_key (k : Nat) : WideAt.IsKeyLit (flit k) := trivial
theorem TabR.dok {w0 w : World} {b bm mb : Nat} {M : List (Lit × Value)} {L : LB} (h : TabR w0 b bm mb M L w) : DOk (mkM M) L b bm [] := by
  obtain ⟨_, _, _, _, h5, _, h7, h8⟩ := h
  refine ⟨fun k hk _ => ?_, fun kl hh => ?_⟩
  · obtain ⟨v, hv⟩ := h8 k hk
    obtain ⟨q1, q2⟩ := mkM_at M (flit k) v (flit_key k) hv h5
    obtain ⟨j, hj, e, hf⟩ := h7 _ hv
    obtain rfl := flit_inj k hk j hj e
    exact ⟨q1, v, q2, hf⟩
  · refine Classical.byContradiction fun hn => ?_
    have := (mkM_not M kl (fun e he e2 => ?_)).1
    · rw [hh] at this; cases this
    · obtain ⟨k, hk, e3, _⟩ := h7 e he
      exact hn ⟨k, hk, by simp, by rw [← e2, e3]⟩
theorem DOk.del {D : DataW Value} {L : LB} {b bm : Nat} {used : List Nat} (h : DOk D L b bm used) (k : Nat) (hk : k < 14) : DOk (D.del (flit k)) L b bm (used ++ [k]) := by
  refine ⟨fun j hj hn => ?_, fun kl hh => ?_⟩
  · simp only [List.mem_append, List.mem_singleton, not_or] at hn
    have hne : flit j ≠ flit k := fun e => hn.2 (flit_inj j hj k hk e)
    obtain ⟨q1, v, q2, q3⟩ := h.1 j hj hn.1
    exact ⟨by rw [Go.Maps.has_del_other hne]; exact q1, v, fun z => by rw [Go.Maps.atKey_del_other hne]; exact q2 z, q3⟩
  · by_cases e : kl = flit k
    · subst e; rw [Go.Maps.has_del_same] at hh; cases hh
    · rw [Go.Maps.has_del_other e] at hh
      obtain ⟨j, hj, hn, rfl⟩ := h.2 kl hh
      exact ⟨j, hj, by simp only [List.mem_append, List.mem_singleton, not_or]; exact ⟨hn, fun e2 => e (by rw [e2])⟩, rfl⟩
theorem flit_same {i j : Nat} (hi : i < 14) (hj : j < 14) (h : (flit i).sameKey (flit j) = true) : i = j := by
  refine flit_inj i hi j hj ?_
  unfold flit at h ⊢
  simp only [Lit.sameKey, beq_iff_eq] at h
  rw [h]
/-- What stands while Valid goes through a message's names. -/
structure VS (w0 : World) (b bm mb g : Nat) (L : LB) (cs : List Value) (ml : List Int) (nm : List ByteArray) (W : World) : Prop where
  blks : ∀ e ∈ L, Blk W e.1 e.2.1 e.2.2.toArray
  ne : (∀ e ∈ L, e.1 ≠ mb) ∧ b ≠ mb ∧ g ≠ mb
  msg : Blk W b 41 cs.toArray
  names : Blk W g 9 (strCells nm).toArray
  below : Below w0.heap.size w0 W
  mb0 : w0.heap.size ≤ mb ∧ mb < W.heap.size
theorem VS.step {w0 W W' : World} {b bm mb g : Nat} {L : LB} {cs : List Value} {ml : List Int} {nm : List ByteArray} (h : VS w0 b bm mb g L cs ml nm W) (k : Below W.heap.size W W') : VS w0 b bm mb g L cs ml nm W' :=
  ⟨fun e he => (h.blks e he).step k, h.ne, h.msg.step k, h.names.step k, Below.touch h.below (Touch.below k []) (by simp) h.below.size, h.mb0.1, Nat.lt_of_lt_of_le h.mb0.2 k.size⟩
theorem VS.turn {w0 W W' : World} {b bm mb g : Nat} {L : LB} {cs : List Value} {ml : List Int} {nm : List ByteArray} {S : List Nat} (h : VS w0 b bm mb g L cs ml nm W) (k : Touch S W W') (hS : ∀ s ∈ S, (∀ e ∈ L, e.1 ≠ s) ∧ b ≠ s ∧ g ≠ s ∧ w0.heap.size ≤ s) : VS w0 b bm mb g L cs ml nm W' :=
  ⟨fun e he => (h.blks e he).touch k (fun hm => (hS _ hm).1 e he rfl), h.ne, h.msg.touch k (fun hm => (hS _ hm).2.1 rfl), h.names.touch k (fun hm => (hS _ hm).2.2.1 rfl), Below.touch h.below k (fun s hs => (hS s hs).2.2.2) h.below.size, h.mb0.1, Nat.lt_of_lt_of_le h.mb0.2 k.size⟩
theorem VS.map {w0 W W' : World} {b bm mb g : Nat} {L : LB} {cs : List Value} {ml : List Int} {nm : List ByteArray} (h : VS w0 b bm mb g L cs ml nm W) (k : Touch [mb] W W') : VS w0 b bm mb g L cs ml nm W' :=
  h.turn k (fun s hs => by obtain rfl : s = mb := by simpa using hs
                           exact ⟨h.ne.1, h.ne.2.1, h.ne.2.2, h.mb0.1⟩)
theorem agg_inj {fw fr fz fo fw' fr' fz' fo' : FuncId} {cw cr cz co cw' cr' cz' co' : List Value} (h : Value.agg (fv fw fr fz fo cw cr cz co).toArray = Value.agg (fv fw' fr' fz' fo' cw' cr' cz' co').toArray) : fz = fz' ∧ cz = cz' := by
  injection h with h
  have := List.toArray_inj h
  unfold fv at this
  injection this with h1 this
  injection this with h2 this
  injection this with h3 this
  injection h3 with h4 _ h5
  injection h4 with h4
  exact ⟨h4, List.toArray_inj h5⟩
end Go.Proofs.Ytpbgelhjbfckcaa
