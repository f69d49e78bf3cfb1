/- run: operations on a new client and on the reference. -/
import Derived.Test.YtpbgelhjbfckcaaS24
namespace Go.Proofs.Ytpbgelhjbfckcaa
open Go.ChangeShapes Go.WideShapes Go.ChangeAt Go.RowKit
set_option linter.unusedVariables false
set_option linter.unusedSimpArgs false

def cRun (S : CS) (l : List OpV) : CS := l.foldl (fun S x => (cStep S x).1) S
theorem cRun_snoc (S : CS) (l : List OpV) (x : OpV) : cRun S (l ++ [x]) = (cStep (cRun S l) x).1 := by unfold cRun; rw [List.foldl_append]; rfl
theorem cStep_asks {S : CS} (h : Asks S) (x : OpV) : Asks (cStep S x).1 := by
  unfold cStep
  split
  · exact (cRequest_asks h _ _).1
  · split
    · exact (cCall_asks h _ _).1
    · split
      · exact (cRetry_asks h).1
      · split
        · exact (cAnswered_asks h _ _).1
        · exact h
theorem cRun_asks (l : List OpV) : ∀ S : CS, Asks S → Asks (cRun S l) := by
  induction l with
  | nil => intro S h; exact h
  | cons x l ih => intro S h; exact ih _ (cStep_asks h x)
theorem cStep_number (S : CS) (x : OpV) : S.number ≤ (cStep S x).1.number ∧ (cStep S x).1.number ≤ S.number + 1 := by
  unfold cStep
  split
  · show _ ≤ (cRequest S x.group x.body).st.number ∧ (cRequest S x.group x.body).st.number ≤ _
    unfold cRequest opened
    repeat' split
    all_goals (dsimp only; omega)
  · split
    · show _ ≤ (cCall S x.group x.value).st.number ∧ (cCall S x.group x.value).st.number ≤ _
      unfold cCall opened
      repeat' split
      all_goals (dsimp only; omega)
    · split
      · show _ ≤ (cRetry S).st.number ∧ (cRetry S).st.number ≤ _
        unfold cRetry turned
        split
        all_goals (dsimp only; omega)
      · split
        · show _ ≤ (cReceive S (repM x S.number) x.frm).st.number ∧ (cReceive S (repM x S.number) x.frm).st.number ≤ _
          unfold cReceive cAnswered
          repeat' split
          all_goals (dsimp only; omega)
        · dsimp only; omega
theorem cRun_number (l : List OpV) : ∀ S : CS, S.number ≤ (cRun S l).number ∧ (cRun S l).number ≤ S.number + l.length := by
  induction l with
  | nil => intro S; exact ⟨Int.le_refl _, by simp [cRun]⟩
  | cons x l ih =>
    intro S
    have h1 := cStep_number S x
    have h2 := ih (cStep S x).1
    have e : cRun S (x :: l) = cRun (cStep S x).1 l := rfl
    rw [e]
    simp only [List.length_cons]
    omega
theorem Own.callN {w0 W W' : World} {L : List (Nat × TypeId × List Value)} {g : Nat} (h : Own w0 [] L W) (ht : Touch [g] W W') (hg : w0.heap.size ≤ g ∧ ∀ e ∈ L, e.1 ≠ g) : Own w0 [] L W' := by
  refine ⟨fun e he => ⟨(h.has e he).1.touch ht (by simpa using hg.2 e he), (h.has e he).2⟩, h.apart, h.touch.next ht (fun t hm => by simp only [List.mem_singleton] at hm; subst hm; exact .inr hg.1), h.old⟩
theorem Own.ne_cl {w0 W : World} {T : List Nat} {L : List (Nat × TypeId × List Value)} {g : Nat} {S : CS} {p : Value} (h : Own w0 T L W) (hc : Cl W g S p) (ht : ∀ e ∈ L, e.2.1 ≠ 74) : ∀ e ∈ L, e.1 ≠ g := fun e he hg => by
  have h1 := (h.has e he).1
  have h2 := hc.blk
  rw [hg] at h1
  unfold Blk at h1 h2
  rw [h2] at h1
  injection h1 with h1
  injection h1 with _ h1
  exact ht e he h1.symm
def RunR (w : World) (i n : Int) (l : List OpV) (e : Ending) (w' : World) : Prop :=
  ∃ g q, e = .returned (.tuple #[.pointer (some ⟨g, 0, none⟩), .agg (rC (cRun (csNew i n) l)).toArray, .bool true]) ∧ Cl w' g (cRun (csNew i n) l) q ∧ w.heap.size ≤ g ∧ Below w.heap.size w w'
theorem asks_new (i n : Int) : Asks (csNew i n) := fun cs hc => by cases hc
set_option maxRecDepth 100000 in
set_option maxHeartbeats 8000000 in
theorem run_c (a b : Int) (v : Value) (l : List OpV) (w : World) (ha : 0 ≤ a ∧ a ≤ 255) (hb : 0 ≤ b ∧ b ≤ 255) (h : OpsIn w v l) (hl : l.length ≤ 1000) :
    Calls Try.prog 12 #[.int .u8 a, .int .u8 b, v] w (RunR w (1 + a % 8) (1 + b % 5) l) := by
  obtain ⟨Al, nl, cl, rfl, hnl, hnc, hcm⟩ := h.form
  have H := hide h
  have HL := hide hl
  have HO := hide (Own.nil w [] (by simp))
  have e1 : a.tmod 8 = a % 8 := Int.tmod_eq_emod_of_nonneg ha.1
  have e2 : b.tmod 5 = b % 5 := Int.tmod_eq_emod_of_nonneg hb.1
  obtain ⟨i, hi⟩ : ∃ i, a % 8 = i := ⟨_, rfl⟩
  obtain ⟨n, hn⟩ : ∃ n, b % 5 = n := ⟨_, rfl⟩
  have hi1 : 0 ≤ i ∧ i ≤ 7 := by omega
  have hn1 : 0 ≤ n ∧ n ≤ 4 := by omega
  rw [hi] at e1
  rw [hn] at e2
  rw [hi, hn]
  clear h hl hi hn
  go_enter Try.func12, Try.ntmps12
  go_wp2_with (first
    | ((with_reducible refine at_alloc 46 ?_); refine wpList_alloc_own HO.out rfl 46 rfl zrc zrc_info ?_; intro WA b7 hO; replace HO := hide hO; clear hO))
  refine (new_c (1 + i) (1 + n) (by omega) (by omega) _).mono ?_
  rintro e w1 ⟨rfl, hc, hb⟩
  have HGN : Hid (w.heap.size ≤ WA.heap.size) := hide HO.out.size
  replace HO := hide (HO.out.step hb)
  obtain ⟨g, hg⟩ : ∃ g, WA.heap.size = g := ⟨_, rfl⟩
  rw [hg] at hc HGN ⊢
  have HC := hide hc
  clear hc hb hg
  have HNL : Hid ((rcl (1 + i) (1 + n) 1 0 false zmsg).length = 52) := hide rfl
  have HNO : Hid ((rcl (1 + i) (1 + n) 1 0 false zmsg).all (·.oneCell') = true) := hide (asks_new (1 + i) (1 + n)).rones
  have HNE : Hid (rC (csNew (1 + i) (1 + n)) = rcl (1 + i) (1 + n) 1 0 false zmsg) := hide rfl
  have HRN := hide (fun (X : World) => rnew_c (1 + i) (1 + n) X)
  generalize hI : 1 + i = I at *
  generalize hN : 1 + n = M at *
  go_wp2_with fail
  refine (HRN.out _).mono ?_
  rintro e w2 ⟨rfl, hb⟩
  replace HO := hide (HO.out.step hb)
  replace HC := hide (HC.out.step hb)
  clear hb HRN
  rw [← HNE.out] at HNL HNO ⊢
  generalize hS0 : csNew I M = S0 at *
  have HA0 : Hid (Asks S0) := hide (by rw [← hS0]; exact asks_new I M)
  have HN0 : Hid (S0.number = 0) := hide (by rw [← hS0]; rfl)
  have HEND : Hid (RunR w I M l = fun e w' => ∃ g q, e = .returned (.tuple #[.pointer (some ⟨g, 0, none⟩), .agg (rC (cRun S0 l)).toArray, .bool true]) ∧ Cl w' g (cRun S0 l) q ∧ w.heap.size ≤ g ∧ Below w.heap.size w w') := hide (by unfold RunR; rw [hS0])
  clear hI hN hS0 HNE
  go_wp2_with (first
    | ((with_reducible refine at_alloc 46 ?_); refine wpList_alloc_own_t HO.out rfl 46 rfl zrc zrc_info ?_; intro WB b12 hO hbl; replace HC := hide (HC.out.step hbl); replace HO := hide hO; clear hO hbl)
    | ((with_reducible refine at_store 46 (.tmp 12) ?_); refine wpList_store_own_t HO.out rfl 46 (.tmp 12) _ rfl 1 _ 0 _ _ (rC S0) (rC S0) rfl (.agg (rC S0).toArray) rfl rfl (fits_agg _) (by rw [HNL.out, zrc_len]; exact Nat.le_refl _) (splice_all (by rw [HNL.out, zrc_len])) (rc_size HNL.out) HNO.out ?_; intro WA hO hbk htc; replace HC := hide (HC.out.put hbk (by decide) htc); replace HO := hide hO; clear hO hbk htc))
  go_loopw [13, 14] (fun v13 v14 wr => ∃ (k : Nat) (q : Value), v13 = .bool true ∧ v14 = .int .i64 k ∧ k ≤ l.length ∧ Own w [] [(b7, 46, zrc), (b12, 46, rC (cRun S0 (l.take k)))] wr ∧ Cl wr g (cRun S0 (l.take k)) q) (fun _ v14 _ => nl - (intOf v14).toNat)
  case atStart => exact ⟨0, _, rfl, rfl, Nat.zero_le _, HO.out, HC.out⟩
  case round =>
    obtain ⟨k, q, rfl, rfl, hk, ho, hc⟩ := hrel
    replace HO := hide ho
    replace HC := hide hc
    clear ho hc
    by_cases hlt : k < nl
    · have hkl : k < l.length := by rw [← hnl.out]; exact hlt
      obtain ⟨gl, ol, rfl, hgl, hok, hra⟩ := H.out.at_ k hkl
      have HRA := hide hra
      have HNX : Hid (cRun S0 (l.take (k + 1)) = (cStep (cRun S0 (l.take k)) l[k]).1) := hide (by rw [List.take_succ_eq_append_getElem hkl, cRun_snoc])
      have HAD := hide (cRun_asks (l.take k) S0 HA0.out)
      have HND : Hid ((cRun S0 (l.take k)).number < 1000000) := hide (by
        have h1 := cRun_number (l.take k) S0
        have h2 : (l.take k).length ≤ 1000 := by have := HL.out; rw [List.length_take]; omega
        have h3 := HN0.out
        omega)
      have HXO := hide hok
      have HXL := hide hok.size
      generalize l[k] = x at *
      generalize cRun S0 (l.take k) = D at *
      have HST := hide (fun (X : World) (hX : Cl X g D q) => step_c g D q x X hX HAD.out HXO.out HND.out)
      have HAE := hide (cStep_asks HAD.out x)
      generalize cStep D x = r at *
      obtain ⟨E, outs⟩ := r
      dsimp only at HNX HAE
      have HDL := hide HAD.out.rlen
      have HEL := hide HAE.out.rlen
      have HEO := hide HAE.out.rones
      have HSE := hide (fun (X : World) (q2 : Value) (hX : Cl X g E q2) => same_c g E q2 X hX HAE.out)
      have hki : (k : Int) < (nl : Int) := by omega
      have HLT := hide hlt
      have HNK : Hid ((k : Int) < 1000) := hide (by have := HL.out; omega)
      clear hlt hkl hok hra
      go_wp2_with fail
      refine wp_region_held_drew (S := fun W => W.rangeAt gl (ol + k * 53) x.cells) (by kernel_rfl) (rangeAt_step HRA.out hgl HO.out.drew.below) (fun hS0 => ?_)
      replace HO := hide HO.out.drew
      replace HC := hide HC.out.drew
      refine wpAnyH_take (i := 0) (v := ?vu0) rfl (by kernel_rfl) (by kernel_rfl) (by kernel_rfl) (fun _ _ _ h => h) (Or.inl ⟨by rfl, ?hyu0⟩) (by assumption) ?restu0
      case hyu0 => (intro w hSw; (try dsimp only at hSw); go_simp; first | done | (with_reducible rfl))
      try simp only [Act.put, List.getElem_toArray, List.getElem_cons_zero, List.getElem_cons_succ, List.setIfInBounds_toArray, List.set_cons_zero, List.set_cons_succ]
      refine wpAnyH_take (i := 2) (v := ?vu1) rfl (by kernel_rfl) (by kernel_rfl) (by kernel_rfl) (fun _ _ _ h => h) (Or.inl ⟨by rfl, ?hyu1⟩) (by assumption) ?restu1
      case hyu1 => (intro w hSw; (try dsimp only at hSw); go_simp; first | done | (with_reducible rfl))
      try simp only [Act.put, List.getElem_toArray, List.getElem_cons_zero, List.getElem_cons_succ, List.setIfInBounds_toArray, List.set_cons_zero, List.set_cons_succ]
      refine wpAnyH_take (i := 3) (v := ?vu2) rfl (by kernel_rfl) (by kernel_rfl) (by kernel_rfl) (fun _ _ _ h => h) (Or.inl ⟨by rfl, ?hyu2⟩) (by assumption) ?restu2
      case hyu2 => (intro w hSw; (try dsimp only at hSw); go_simp; first | done | (with_reducible rfl))
      try simp only [Act.put, List.getElem_toArray, List.getElem_cons_zero, List.getElem_cons_succ, List.setIfInBounds_toArray, List.set_cons_zero, List.set_cons_succ]
      refine wpAnyH_take (i := 4) (v := ?vu3) rfl (by kernel_rfl) (by kernel_rfl) (by kernel_rfl) (fun _ _ _ h => h) (Or.inl ⟨by rfl, ?hyu3⟩) (by assumption) ?restu3
      case hyu3 => (intro w hSw; (try dsimp only at hSw); go_simp; first | done | (with_reducible rfl))
      try simp only [Act.put, List.getElem_toArray, List.getElem_cons_zero, List.getElem_cons_succ, List.setIfInBounds_toArray, List.set_cons_zero, List.set_cons_succ]
      refine wpAnyH_take (i := 5) (v := .agg x.cells.toArray) rfl (by kernel_rfl) (by kernel_rfl) (by kernel_rfl) (fun _ _ _ h => h) (yieldsIf_load_mid rfl 43 (.tmp 47) rfl gl (ol + k * 53) rfl x.cells _ (fun w hw => hw) Try.underlying43 rfl (op_size HXL.out)) (by assumption) ?_
      try simp only [Act.put, List.getElem_toArray, List.getElem_cons_zero, List.getElem_cons_succ, List.setIfInBounds_toArray, List.set_cons_zero, List.set_cons_succ]
      refine wpAnyH_ready (rs := [1]) (by kernel_rfl) (by simp) ?_
      refine AllReadyH.cons rfl (fun K hK => ?_) AllReadyH.nil
      refine step_load_blk rfl 46 (.tmp 12) rfl b12 46 (rC D).toArray _ rfl (HO.out.blk 1 rfl) Try.underlying46 rfl (by rw [List.size_toArray]; exact rc_size HDL.out) ?_
      refine hK.out _ _ (rangeAt_step HRA.out hgl HO.out.below) (fun hS5 => ?_)
      clear hK K
      try simp only [Act.put, List.getElem_toArray, List.getElem_cons_zero, List.getElem_cons_succ, List.setIfInBounds_toArray, List.set_cons_zero, List.set_cons_succ]
      refine wpAnyH_ready (rs := [6]) (by kernel_rfl) (by simp) ?_
      refine AllReadyH.cons rfl (fun K hK => ?_) AllReadyH.nil
      go_simp
      refine (HST.out _ HC.out).mono ?_
      rintro e wE ⟨v, rfl, hv, ⟨q2, hc⟩, ht⟩
      replace HO := hide (HO.out.callN ht ⟨HGN.out, HO.out.ne_cl HC.out (by simp)⟩)
      replace HC := hide hc
      obtain ⟨vA, vc, rfl, _⟩ := hv
      dsimp only at hc
      replace HC := hide hc
      clear hc ht
      refine hK.out _ _ (rangeAt_step HRA.out hgl HO.out.below) (fun hS6 => ?_)
      clear hK K
      try simp only [Act.put, List.getElem_toArray, List.getElem_cons_zero, List.getElem_cons_succ, List.setIfInBounds_toArray, List.set_cons_zero, List.set_cons_succ]
      refine wpAnyH_take (i := 7) (v := ?vu7) rfl (by kernel_rfl) (by kernel_rfl) (by kernel_rfl) (fun _ _ _ h => h) (Or.inl ⟨by rfl, ?hyu7⟩) (by assumption) ?restu7
      case hyu7 => (intro w hSw; (try dsimp only at hSw); go_simp; first | done | (with_reducible rfl))
      try simp only [Act.put, List.getElem_toArray, List.getElem_cons_zero, List.getElem_cons_succ, List.setIfInBounds_toArray, List.set_cons_zero, List.set_cons_succ]
      refine wpAnyH_take (i := 8) (v := ?vu8) rfl (by kernel_rfl) (by kernel_rfl) (by kernel_rfl) (fun _ _ _ h => h) (Or.inl ⟨by rfl, ?hyu8⟩) (by assumption) ?restu8
      case hyu8 => (intro w hSw; (try dsimp only at hSw); go_simp; first | done | (with_reducible rfl))
      try simp only [Act.put, List.getElem_toArray, List.getElem_cons_zero, List.getElem_cons_succ, List.setIfInBounds_toArray, List.set_cons_zero, List.set_cons_succ]
      refine wpAnyH_take (i := 9) (v := ?vu9) rfl (by kernel_rfl) (by kernel_rfl) (by kernel_rfl) (fun _ _ _ h => h) (Or.inl ⟨by rfl, ?hyu9⟩) (by assumption) ?restu9
      case hyu9 => (intro w hSw; (try dsimp only at hSw); go_simp; first | done | (with_reducible rfl))
      try simp only [Act.put, List.getElem_toArray, List.getElem_cons_zero, List.getElem_cons_succ, List.setIfInBounds_toArray, List.set_cons_zero, List.set_cons_succ]
      refine wpAnyH_take (i := 10) (v := ?vu10) rfl (by kernel_rfl) (by kernel_rfl) (by kernel_rfl) (fun _ _ _ h => h) (Or.inl ⟨by rfl, ?hyu10⟩) (by assumption) ?restu10
      case hyu10 => (intro w hSw; (try dsimp only at hSw); go_simp; first | done | (with_reducible rfl))
      try simp only [Act.put, List.getElem_toArray, List.getElem_cons_zero, List.getElem_cons_succ, List.setIfInBounds_toArray, List.set_cons_zero, List.set_cons_succ]
      refine wpAnyH_ready (rs := [11]) (by kernel_rfl) (by simp) ?_
      refine AllReadyH.cons rfl (fun K hK => ?_) AllReadyH.nil
      refine step_store_own_t HO.out rfl 46 (.tmp 12) (.tmp 50) rfl 1 _ 0 _ _ (rC E) (rC E) rfl (.agg (rC E).toArray) rfl rfl (fits_agg _) (by rw [HEL.out, HDL.out]; exact Nat.le_refl _) (splice_all (by rw [HEL.out, HDL.out])) (rc_size HEL.out) HEO.out ?_
      intro WA hO hbk htc
      replace HC := hide (HC.out.put hbk (by decide) htc)
      replace HO := hide hO
      clear hO hbk htc
      refine hK.out _ _ (rangeAt_step HRA.out hgl HO.out.below) (fun hS11 => ?_)
      clear hK K
      try simp only [Act.put, List.getElem_toArray, List.getElem_cons_zero, List.getElem_cons_succ, List.setIfInBounds_toArray, List.set_cons_zero, List.set_cons_succ]
      refine wpAnyH_take (i := 12) (v := ?vu12) rfl (by kernel_rfl) (by kernel_rfl) (by kernel_rfl) (fun _ _ _ h => h) (Or.inl ⟨by rfl, ?hyu12⟩) (by assumption) ?restu12
      case hyu12 => (intro w hSw; (try dsimp only at hSw); go_simp; first | done | (with_reducible rfl))
      try simp only [Act.put, List.getElem_toArray, List.getElem_cons_zero, List.getElem_cons_succ, List.setIfInBounds_toArray, List.set_cons_zero, List.set_cons_succ]
      refine wpAnyH_done (by kernel_rfl) ?_ _
      clear hS0
      go_wp2_with (first
        | ((with_reducible refine at_load 46 (.tmp 12) ?_); refine wpList_load_own HO.out rfl 46 (.tmp 12) rfl 1 _ 0 52 _ _ (rC E) _ rfl (take_all HEL.out) rfl Try.underlying46 rfl (rc_size HEL.out) ?_))
      refine (HSE.out _ _ HC.out).mono ?_
      rintro e w5 ⟨rfl, hb⟩
      replace HO := hide (HO.out.step hb)
      replace HC := hide (HC.out.step hb)
      clear hb
      go_wp2_with fail
      go_roundw
      case rel =>
        refine ⟨k + 1, q2, rfl, by go_num, by have := HLT.out; have := hnl.out; omega, ?_, ?_⟩
        · rw [HNX.out]; exact HO.out
        · rw [HNX.out]; exact HC.out
      case measure => have := HLT.out; simp [intOf]; omega
    · obtain rfl : k = nl := by have := hnl.out; omega
      have HTK : Hid (l.take k = l) := hide (by rw [hnl.out, List.take_length])
      rw [HTK.out] at HO HC
      have HAG := hide (cRun_asks l S0 HA0.out)
      generalize cRun S0 l = G at *
      have HGL := hide HAG.out.rlen
      have HGO := hide HAG.out.rones
      clear hlt
      go_wp2_with fail
      refine wp_region_held_drew (S := fun W => (∀ j, W.cell? ⟨b12, j, none⟩ = (rC G : List Value)[j]?)) (by kernel_rfl) (HO.out.drew.cells 1 rfl) (fun hS0 => ?_)
      replace HO := hide HO.out.drew
      replace HC := hide HC.out.drew
      refine wpAnyH_take (i := 0) (v := ?vy0) rfl (by kernel_rfl) (by kernel_rfl) (by kernel_rfl) (fun _ _ _ h => h) (Or.inl ⟨by rfl, ?hyy0⟩) (by assumption) ?resty0
      case hyy0 => (intro w hSw; (try dsimp only at hSw); go_simp; first | done | (with_reducible rfl))
      try simp only [Act.put, List.getElem_toArray, List.getElem_cons_zero, List.getElem_cons_succ, List.setIfInBounds_toArray, List.set_cons_zero, List.set_cons_succ]
      refine wpAnyH_take (i := 1) (v := .agg (rC G).toArray) rfl (by kernel_rfl) (by kernel_rfl) (by kernel_rfl) (fun _ _ _ h => h) (yieldsIf_load rfl 46 (.tmp 12) rfl b12 0 52 46 (rC G) (rC G) _ (fun w hw => hw) (take_all HGL.out) rfl Try.underlying46 rfl (rc_size HGL.out)) (by assumption) ?_
      try simp only [Act.put, List.getElem_toArray, List.getElem_cons_zero, List.getElem_cons_succ, List.setIfInBounds_toArray, List.set_cons_zero, List.set_cons_succ]
      refine wpAnyH_take (i := 2) (v := ?vy2) rfl (by kernel_rfl) (by kernel_rfl) (by kernel_rfl) (fun _ _ _ h => h) (Or.inl ⟨by rfl, ?hyy2⟩) (by assumption) ?resty2
      case hyy2 => (intro w hSw; (try dsimp only at hSw); go_simp; first | done | (with_reducible rfl))
      try simp only [Act.put, List.getElem_toArray, List.getElem_cons_zero, List.getElem_cons_succ, List.setIfInBounds_toArray, List.set_cons_zero, List.set_cons_succ]
      refine wpAnyH_take (i := 3) (v := ?vy3) rfl (by kernel_rfl) (by kernel_rfl) (by kernel_rfl) (fun _ _ _ h => h) (Or.inl ⟨by rfl, ?hyy3⟩) (by assumption) ?resty3
      case hyy3 => (intro w hSw; (try dsimp only at hSw); go_simp; first | done | (with_reducible rfl))
      try simp only [Act.put, List.getElem_toArray, List.getElem_cons_zero, List.getElem_cons_succ, List.setIfInBounds_toArray, List.set_cons_zero, List.set_cons_succ]
      refine wpAnyH_take (i := 4) (v := ?vy4) rfl (by kernel_rfl) (by kernel_rfl) (by kernel_rfl) (fun _ _ _ h => h) (Or.inl ⟨by rfl, ?hyy4⟩) (by assumption) ?resty4
      case hyy4 => (intro w hSw; (try dsimp only at hSw); go_simp; first | done | (with_reducible rfl))
      try simp only [Act.put, List.getElem_toArray, List.getElem_cons_zero, List.getElem_cons_succ, List.setIfInBounds_toArray, List.set_cons_zero, List.set_cons_succ]
      refine wpAnyH_take (i := 5) (v := ?vy5) rfl (by kernel_rfl) (by kernel_rfl) (by kernel_rfl) (fun _ _ _ h => h) (Or.inl ⟨by rfl, ?hyy5⟩) (by assumption) ?resty5
      case hyy5 => (intro w hSw; (try dsimp only at hSw); go_simp; first | done | (with_reducible rfl))
      try simp only [Act.put, List.getElem_toArray, List.getElem_cons_zero, List.getElem_cons_succ, List.setIfInBounds_toArray, List.set_cons_zero, List.set_cons_succ]
      refine wpAnyH_take (i := 6) (v := ?vy6) rfl (by kernel_rfl) (by kernel_rfl) (by kernel_rfl) (fun _ _ _ h => h) (Or.inl ⟨by rfl, ?hyy6⟩) (by assumption) ?resty6
      case hyy6 => (intro w hSw; (try dsimp only at hSw); go_simp; first | done | (with_reducible rfl))
      try simp only [Act.put, List.getElem_toArray, List.getElem_cons_zero, List.getElem_cons_succ, List.setIfInBounds_toArray, List.set_cons_zero, List.set_cons_succ]
      refine wpAnyH_take (i := 7) (v := ?vy7) rfl (by kernel_rfl) (by kernel_rfl) (by kernel_rfl) (fun _ _ _ h => h) (Or.inl ⟨by rfl, ?hyy7⟩) (by assumption) ?resty7
      case hyy7 => (intro w hSw; (try dsimp only at hSw); go_simp; first | done | (with_reducible rfl))
      try simp only [Act.put, List.getElem_toArray, List.getElem_cons_zero, List.getElem_cons_succ, List.setIfInBounds_toArray, List.set_cons_zero, List.set_cons_succ]
      refine wpAnyH_ready (rs := [8]) (by kernel_rfl) (by simp) ?_
      refine AllReadyH.cons rfl (fun K hK => ?_) AllReadyH.nil
      refine step_store_own_t HO.out rfl 46 (.tmp 7) (.tmp 58) rfl 0 _ 0 _ _ (rC G) (rC G) rfl (.agg (rC G).toArray) rfl rfl (fits_agg _) (by rw [HGL.out, zrc_len]; exact Nat.le_refl _) (splice_all (by rw [HGL.out, zrc_len])) (rc_size HGL.out) HGO.out ?_
      intro WA hO hbk htc
      replace HC := hide (HC.out.put hbk (by decide) htc)
      replace HO := hide hO
      clear hO hbk htc
      refine hK.out _ _ (HO.out.cells 1 rfl) (fun hS8 => ?_)
      clear hK K
      try simp only [Act.put, List.getElem_toArray, List.getElem_cons_zero, List.getElem_cons_succ, List.setIfInBounds_toArray, List.set_cons_zero, List.set_cons_succ]
      refine wpAnyH_take (i := 9) (v := ?vy9) rfl (by kernel_rfl) (by kernel_rfl) (by kernel_rfl) (fun _ _ _ h => h) (Or.inl ⟨by rfl, ?hyy9⟩) (by assumption) ?resty9
      case hyy9 => (intro w hSw; (try dsimp only at hSw); go_simp; first | done | (with_reducible rfl))
      try simp only [Act.put, List.getElem_toArray, List.getElem_cons_zero, List.getElem_cons_succ, List.setIfInBounds_toArray, List.set_cons_zero, List.set_cons_succ]
      refine wpAnyH_done (by kernel_rfl) ?_ _
      clear hS0
      go_wp2_with fail
      refine bodyPost_ret (results_tmp_row_tmp rfl _ _ b7 46 (rC G).toArray (0, 0) _ _ _ rfl rfl rfl (HO.out.blk 0 rfl) Try.underlying46 rfl (by rw [List.size_toArray]; exact rc_size HGL.out)) rfl ?_
      rw [HEND.out]
      exact ⟨g, q, rfl, HC.out, HGN.out, HO.out.below⟩
end Go.Proofs.Ytpbgelhjbfckcaa
