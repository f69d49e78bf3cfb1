/- same: a client and the reference's are one. -/
import Derived.Test.YtpbgelhjbfckcaaS23
import Derived.Test.YtpbgelhjbfckcaaS01
import Derived.Test.YtpbgelhjbfckcaaS12
import Derived.Deep.Slices
namespace Go.Proofs.Ytpbgelhjbfckcaa
open Go.ChangeShapes Go.WideShapes Go.ChangeAt Go.RowKit
set_option linter.unusedVariables false
set_option linter.unusedSimpArgs false

theorem Cl.ne_new {w : World} {g : Nat} {S : CS} {p : Value} (h : Cl w g S p) : g ≠ w.heap.size ∧ ∀ b, p = .pointer (some ⟨b, 0, none⟩) → b ≠ w.heap.size :=
  ⟨Nat.ne_of_lt h.lt, fun b hb => Nat.ne_of_lt (h.ptr_lt hb)⟩
theorem openOf_is (S : CS) : (openOf S).2 = S.opened.isSome := by unfold openOf; cases S.opened <;> rfl
theorem Asks.same {S : CS} (h : Asks S) (X : World) : Calls Try.prog 17 #[.agg (openOf S).1.toArray, .agg (openOf S).1.toArray] X (Yes X) := by
  unfold openOf
  cases ho : S.opened with
  | none => exact same_req 0 0 0 0 ⟨#[]⟩ 0 X
  | some cs => obtain ⟨k, g, b, v, rfl, _⟩ := h cs ho; exact same_req _ _ _ _ _ _ X
set_option maxRecDepth 100000 in
set_option maxHeartbeats 4000000 in
theorem same_c (g : Nat) (S : CS) (p : Value) (w : World) (h : Cl w g S p) (hA : Asks S) : Calls Try.prog 26 #[.pointer (some ⟨g, 0, none⟩), .agg (rC S).toArray] w (Yes w) := by
  have HO := hide (Own.nil w [] (by simp))
  have HC := hide h
  have HSA := hide hA.same
  have HML := hide hA.open_len.1
  have HMO := hide hA.open_len.2
  have HOP := hide (fun (X : World) (hX : Cl X g S p) => open_c g S p X hX)
  unfold OpenR at HOP
  rw [openOf_is] at HOP
  have HRE : Hid (rC S = rcl S.id S.machines S.target S.number S.opened.isSome (openOf S).1) := hide rfl
  rw [HRE.out]
  clear h hA HRE
  generalize (openOf S).1 = ms at *
  generalize S.opened.isSome = oo at *
  go_enter Try.func26, Try.ntmps26
  go_wp2_with (first
    | ((with_reducible refine at_box 46 (.tmp 1) ?_); refine wpList_box_own_t HO.out rfl 46 (.tmp 1) rfl (rcl S.id S.machines S.target S.number oo ms) rfl ?_; intro WA b3 hO hbl; replace HC := hide (HC.out.step hbl); replace HO := hide hO; clear hO hbl))
  refine (HOP.out _ HC.out).mono ?_
  rintro e w1 ⟨rfl, hb⟩
  replace HC := hide (HC.out.step hb)
  replace HO := hide (HO.out.step hb)
  clear hb HOP
  go_wp2_with (first
    | ((with_reducible refine at_alloc 41 ?_); refine wpList_alloc_blk rfl 41 rfl zmsgI.toArray zmsgI_info ?_; intro WB hx1 hb1 hs1; have HNE := hide HC.out.ne_new; replace HC := hide (HC.out.step hb1); replace HO := hide (HO.out.push hx1 hb1); clear hx1 hb1 hs1)
    | ((with_reducible refine at_store 41 (.tmp 5) ?_); refine wpList_store_own_t HO.out rfl 41 (.tmp 5) _ rfl 1 _ 0 _ _ ms ms rfl (.agg ms.toArray) rfl rfl (fits_agg _) (by rw [HML.out, zmsgI_len]; exact Nat.le_refl _) (splice_all (by rw [HML.out, zmsgI_len])) (msg_size HML.out) HMO.out ?_; intro WA hO hbk htc; replace HC := hide (HC.out.far_of htc (by simpa using HNE.out.1) (fun b hb => by simpa using HNE.out.2 b hb)); replace HO := hide hO; clear hO hbk htc))
  refine wp_region_held_drew (S := fun W => (∀ j, W.cell? ⟨b3, j, none⟩ = (rcl S.id S.machines S.target S.number oo ms : List Value)[j]?) ∧ (∀ j, W.cell? ⟨w1.heap.size, j, none⟩ = (ms : List Value)[j]?)) (by kernel_rfl) (⟨HO.out.drew.cells 0 rfl, HO.out.drew.cells 1 rfl⟩) (fun hS0 => ?_)
  replace HO := hide HO.out.drew
  replace HC := hide HC.out.drew
  refine wpAnyH_take (i := 0) (v := ?vs0) rfl (by kernel_rfl) (by kernel_rfl) (by kernel_rfl) (fun _ _ _ h => h) (Or.inl ⟨by rfl, ?hys0⟩) (by assumption) ?rests0
  case hys0 => (intro w hSw; (try dsimp only at hSw); go_simp; first | done | (with_reducible rfl))
  try simp only [Act.put, List.getElem_toArray, List.getElem_cons_zero, List.getElem_cons_succ, List.setIfInBounds_toArray, List.set_cons_zero, List.set_cons_succ]
  refine wpAnyH_take (i := 1) (v := ?vs1) rfl (by kernel_rfl) (by kernel_rfl) (by kernel_rfl) (fun _ _ _ h => h) (Or.inl ⟨by rfl, ?hys1⟩) (by assumption) ?rests1
  case hys1 => (intro w hSw; (try dsimp only at hSw); go_simp; first | done | (with_reducible rfl))
  try simp only [Act.put, List.getElem_toArray, List.getElem_cons_zero, List.getElem_cons_succ, List.setIfInBounds_toArray, List.set_cons_zero, List.set_cons_succ]
  refine wpAnyH_take (i := 2) (v := ?vs2) rfl (by kernel_rfl) (by kernel_rfl) (by kernel_rfl) (fun _ _ _ h => h) (Or.inl ⟨by rfl, ?hys2⟩) (by assumption) ?rests2
  case hys2 => (intro w hSw; (try dsimp only at hSw); go_simp; first | done | (with_reducible rfl))
  try simp only [Act.put, List.getElem_toArray, List.getElem_cons_zero, List.getElem_cons_succ, List.setIfInBounds_toArray, List.set_cons_zero, List.set_cons_succ]
  refine wpAnyH_take (i := 3) (v := ?vs3) rfl (by kernel_rfl) (by kernel_rfl) (by kernel_rfl) (fun _ _ _ h => h) (Or.inl ⟨by rfl, ?hys3⟩) (by assumption) ?rests3
  case hys3 => (intro w hSw; (try dsimp only at hSw); go_simp; first | done | (with_reducible rfl))
  try simp only [Act.put, List.getElem_toArray, List.getElem_cons_zero, List.getElem_cons_succ, List.setIfInBounds_toArray, List.set_cons_zero, List.set_cons_succ]
  refine wpAnyH_take (i := 4) (v := ?vs4) rfl (by kernel_rfl) (by kernel_rfl) (by kernel_rfl) (fun _ _ _ h => h) (Or.inl ⟨by rfl, ?hys4⟩) (by assumption) ?rests4
  case hys4 => (intro w hSw; (try dsimp only at hSw); go_simp; first | done | (with_reducible rfl))
  try simp only [Act.put, List.getElem_toArray, List.getElem_cons_zero, List.getElem_cons_succ, List.setIfInBounds_toArray, List.set_cons_zero, List.set_cons_succ]
  refine wpAnyH_take (i := 5) (v := .agg ms.toArray) rfl (by kernel_rfl) (by kernel_rfl) (by kernel_rfl) (fun _ _ _ h => h) (yieldsIf_load rfl 41 (.tmp 5) rfl w1.heap.size 0 47 41 ms ms _ (fun w hw => hw.2) (take_all HML.out) rfl Try.underlying41 rfl (msg_size HML.out)) (by assumption) ?_
  try simp only [Act.put, List.getElem_toArray, List.getElem_cons_zero, List.getElem_cons_succ, List.setIfInBounds_toArray, List.set_cons_zero, List.set_cons_succ]
  refine wpAnyH_take (i := 6) (v := ?vs6) rfl (by kernel_rfl) (by kernel_rfl) (by kernel_rfl) (fun _ _ _ h => h) (Or.inl ⟨by rfl, ?hys6⟩) (by assumption) ?rests6
  case hys6 => (intro w hSw; (try dsimp only at hSw); go_simp; first | done | (with_reducible rfl))
  try simp only [Act.put, List.getElem_toArray, List.getElem_cons_zero, List.getElem_cons_succ, List.setIfInBounds_toArray, List.set_cons_zero, List.set_cons_succ]
  refine wpAnyH_take (i := 7) (v := .agg ms.toArray) rfl (by kernel_rfl) (by kernel_rfl) (by kernel_rfl) (fun _ _ _ h => h) (yieldsIf_load rfl 41 (.tmp 18) rfl b3 5 47 41 (rcl S.id S.machines S.target S.number oo ms) ms _ (fun w hw => hw.1) (take5 HML.out) rfl Try.underlying41 rfl (msg_size HML.out)) (by assumption) ?_
  try simp only [Act.put, List.getElem_toArray, List.getElem_cons_zero, List.getElem_cons_succ, List.setIfInBounds_toArray, List.set_cons_zero, List.set_cons_succ]
  refine wpAnyH_ready (rs := [8]) (by kernel_rfl) (by simp) ?_
  refine AllReadyH.cons rfl (fun K hK => ?_) AllReadyH.nil
  go_simp
  refine (HSA.out _).mono ?_
  rintro e wE ⟨rfl, hb⟩
  replace HC := hide (HC.out.step hb)
  replace HO := hide (HO.out.step hb)
  clear hb
  refine hK.out _ _ (⟨HO.out.cells 0 rfl, HO.out.cells 1 rfl⟩) (fun hS8 => ?_)
  clear hK K
  try simp only [Act.put, List.getElem_toArray, List.getElem_cons_zero, List.getElem_cons_succ, List.setIfInBounds_toArray, List.set_cons_zero, List.set_cons_succ]
  refine wpAnyH_take (i := 9) (v := ?vs9) rfl (by kernel_rfl) (by kernel_rfl) (by kernel_rfl) (fun _ _ _ h => h) (Or.inl ⟨by rfl, ?hys9⟩) (by assumption) ?rests9
  case hys9 => (intro w hSw; (try dsimp only at hSw); go_simp; first | done | (with_reducible rfl))
  try simp only [Act.put, List.getElem_toArray, List.getElem_cons_zero, List.getElem_cons_succ, List.setIfInBounds_toArray, List.set_cons_zero, List.set_cons_succ]
  refine wpAnyH_take (i := 10) (v := ?vs10) rfl (by kernel_rfl) (by kernel_rfl) (by kernel_rfl) (fun _ _ _ h => h) (Or.inl ⟨by rfl, ?hys10⟩) (by assumption) ?rests10
  case hys10 => (intro w hSw; (try dsimp only at hSw); go_simp; first | done | (with_reducible rfl))
  try simp only [Act.put, List.getElem_toArray, List.getElem_cons_zero, List.getElem_cons_succ, List.setIfInBounds_toArray, List.set_cons_zero, List.set_cons_succ]
  refine wpAnyH_take (i := 11) (v := ?vs11) rfl (by kernel_rfl) (by kernel_rfl) (by kernel_rfl) (fun _ _ _ h => h) (Or.inl ⟨by rfl, ?hys11⟩) (by assumption) ?rests11
  case hys11 => (intro w hSw; (try dsimp only at hSw); go_simp; first | done | (with_reducible rfl))
  try simp only [Act.put, List.getElem_toArray, List.getElem_cons_zero, List.getElem_cons_succ, List.setIfInBounds_toArray, List.set_cons_zero, List.set_cons_succ]
  refine wpAnyH_take (i := 13) (v := ?vs12) rfl (by kernel_rfl) (by kernel_rfl) (by kernel_rfl) (fun _ _ _ h => h) (Or.inl ⟨by rfl, ?hys12⟩) (by assumption) ?rests12
  case hys12 => (intro w hSw; (try dsimp only at hSw); go_simp; first | done | (with_reducible rfl))
  try simp only [Act.put, List.getElem_toArray, List.getElem_cons_zero, List.getElem_cons_succ, List.setIfInBounds_toArray, List.set_cons_zero, List.set_cons_succ]
  refine wpAnyH_take (i := 14) (v := ?vs13) rfl (by kernel_rfl) (by kernel_rfl) (by kernel_rfl) (fun _ _ _ h => h) (Or.inl ⟨by rfl, ?hys13⟩) (by assumption) ?rests13
  case hys13 => (intro w hSw; (try dsimp only at hSw); go_simp; first | done | (with_reducible rfl))
  try simp only [Act.put, List.getElem_toArray, List.getElem_cons_zero, List.getElem_cons_succ, List.setIfInBounds_toArray, List.set_cons_zero, List.set_cons_succ]
  refine wpAnyH_ready (rs := [12]) (by kernel_rfl) (by simp) ?_
  refine AllReadyH.cons rfl (fun K hK => ?_) AllReadyH.nil
  go_simp
  refine (number_c g S p _ HC.out).mono ?_
  rintro e _ ⟨rfl, rfl⟩
  refine hK.out _ _ (⟨HO.out.cells 0 rfl, HO.out.cells 1 rfl⟩) (fun hS14 => ?_)
  clear hK K
  try simp only [Act.put, List.getElem_toArray, List.getElem_cons_zero, List.getElem_cons_succ, List.setIfInBounds_toArray, List.set_cons_zero, List.set_cons_succ]
  refine wpAnyH_take (i := 15) (v := ?vs15) rfl (by kernel_rfl) (by kernel_rfl) (by kernel_rfl) (fun _ _ _ h => h) (Or.inl ⟨by rfl, ?hys15⟩) (by assumption) ?rests15
  case hys15 => (intro w hSw; (try dsimp only at hSw); go_simp; first | done | (with_reducible rfl))
  try simp only [Act.put, List.getElem_toArray, List.getElem_cons_zero, List.getElem_cons_succ, List.setIfInBounds_toArray, List.set_cons_zero, List.set_cons_succ]
  refine wpAnyH_take (i := 16) (v := ?vs16) rfl (by kernel_rfl) (by kernel_rfl) (by kernel_rfl) (fun _ _ _ h => h) (Or.inl ⟨by rfl, ?hys16⟩) (by assumption) ?rests16
  case hys16 => (intro w hSw; (try dsimp only at hSw); go_simp; first | done | (with_reducible rfl))
  try simp only [Act.put, List.getElem_toArray, List.getElem_cons_zero, List.getElem_cons_succ, List.setIfInBounds_toArray, List.set_cons_zero, List.set_cons_succ]
  refine wpAnyH_take (i := 17) (v := ?vs17) rfl (by kernel_rfl) (by kernel_rfl) (by kernel_rfl) (fun _ _ _ h => h) (Or.inl ⟨by rfl, ?hys17⟩) (by assumption) ?rests17
  case hys17 => (intro w hSw; (try dsimp only at hSw); go_simp; first | done | (with_reducible rfl))
  try simp only [Act.put, List.getElem_toArray, List.getElem_cons_zero, List.getElem_cons_succ, List.setIfInBounds_toArray, List.set_cons_zero, List.set_cons_succ]
  refine wpAnyH_done (by kernel_rfl) ?_ _
  clear hS0
  go_wp2_with fail
  go_ret
  exact ⟨rfl, HO.out.below⟩
end Go.Proofs.Ytpbgelhjbfckcaa
/- What came in as a value whose type is built of integers, texts, bools, slices and structs: the shape of its cells. -/
namespace Go.Proofs.Ytpbgelhjbfckcaa
open Go.ChangeShapes Go.WideShapes Go.ChangeAt Go.RowKit
set_option linter.unusedVariables false

inductive Kd where
  | i (k : IntKind)
  | s
  | b
  | l
def Kd.fits : Kd → Value → Prop
  | .i k, v => ∃ n, v = .int k n ∧ (Lit.int k n).wf = true
  | .s, v => ∃ x : ByteArray, v = .string x ∧ x.size ≤ maxLen
  | .b, v => ∃ x : Bool, v = .bool x
  | .l, v => ∃ A n c, v = .slice A n c ∧ n ≤ c ∧ c ≤ maxLen
theorem Kd.one {k : Kd} {v : Value} (h : k.fits v) : v.oneCell' = true := by
  cases k with
  | i k => obtain ⟨n, rfl, _⟩ := h; rfl
  | s => obtain ⟨n, rfl, _⟩ := h; rfl
  | b => obtain ⟨n, rfl⟩ := h; rfl
  | l => obtain ⟨A, n, c, rfl, _⟩ := h; rfl
/-- The cells fit the kinds, one by one. -/
def Fit2 : List Kd → List Value → Prop
  | [], [] => True
  | k :: ks, v :: vs => k.fits v ∧ Fit2 ks vs
  | _, _ => False
theorem Fit2.len : ∀ {ks : List Kd} {vs : List Value}, Fit2 ks vs → vs.length = ks.length
  | [], [], _ => rfl
  | _ :: ks, _ :: vs, h => by simp [Fit2.len h.2]
  | [], _ :: _, h => by cases h
  | _ :: _, [], h => by cases h
theorem Fit2.append : ∀ {ks ls : List Kd} {vs ws : List Value}, Fit2 ks vs → Fit2 ls ws → Fit2 (ks ++ ls) (vs ++ ws)
  | [], _, [], _, _, h => h
  | _ :: ks, _, _ :: vs, _, h, h2 => ⟨h.1, Fit2.append h.2 h2⟩
  | [], _, _ :: _, _, h, _ => by cases h
  | _ :: _, _, [], _, h, _ => by cases h
theorem Fit2.ones : ∀ {ks : List Kd} {vs : List Value}, Fit2 ks vs → ∀ v ∈ vs, v.oneCell' = true
  | [], [], _, v, hv => by cases hv
  | _ :: ks, w :: vs, h, v, hv => by
    rcases List.mem_cons.1 hv with rfl | hv
    · exact Kd.one h.1
    · exact Fit2.ones h.2 v hv
  | [], _ :: _, h, _, _ => by cases h
  | _ :: _, [], h, _, _ => by cases h
theorem Fit2.at : ∀ {ks : List Kd} {vs : List Value} (i : Nat) {k : Kd}, Fit2 ks vs → ks[i]? = some k → ∃ v, vs[i]? = some v ∧ k.fits v
  | _ :: ks, w :: vs, 0, k, h, hk => by
    simp only [List.getElem?_cons_zero, Option.some.injEq] at hk
    subst hk
    exact ⟨w, rfl, h.1⟩
  | _ :: ks, w :: vs, i + 1, k, h, hk => by
    simp only [List.getElem?_cons_succ] at hk ⊢
    exact Fit2.at i h.2 hk
  | [], [], i, k, _, hk => by simp at hk
  | [], _ :: _, _, _, h, _ => by cases h
  | _ :: _, [], _, _, h, _ => by cases h
def flatFs (g : TypeId → Option (List Kd)) (P : Program) : Nat → List Field → Option (List Kd)
  | _, [] => some []
  | off, f :: fs => if f.offset = off then
      match g f.type with
      | some ks => if P.cellsOf f.type = ks.length then (flatFs g P (off + ks.length) fs).map (ks ++ ·) else none
      | none => none
    else none
/-- The kinds of a type's cells. -/
def flatK (P : Program) : Nat → TypeId → Option (List Kd)
  | 0, _ => none
  | n + 1, t => match P.underlying t with
    | some (.int k) => some [.i k]
    | some .string => some [.s]
    | some .bool => some [.b]
    | some (.slice _) => some [.l]
    | some (.struct fs) => match flatFs (flatK P n) P 0 fs.toList with
      | some ks => if P.cellsOf t = ks.length then some ks else none
      | none => none
    | _ => none
section
variable {H : Type} {enc : TypeId × Value → H} {P : Program} {W : World}
theorem flat_fields {g : TypeId → Option (List Kd)} {m : Nat} (ih : ∀ t ks cs x, g t = some ks → DataW.trod enc P W 0 (fun _ => true) true m t cs = some x → Fit2 ks cs) (cs : List Value) : ∀ (fs : List Field) (off : Nat) (ks : List Kd), flatFs g P off fs = some ks →
    (∀ f ∈ fs, ∃ x, DataW.trod enc P W 0 (fun _ => true) true m f.type ((cs.drop f.offset).take (P.cellsOf f.type)) = some x) → Fit2 ks ((cs.drop off).take ks.length)
  | [], off, ks, h, _ => by
    simp only [flatFs, Option.some.injEq] at h
    subst h
    simp [Fit2]
  | f :: fs, off, ks, h, hx => by
    unfold flatFs at h
    split at h
    · rename_i ho
      split at h
      · rename_i kf hg
        split at h
        · rename_i hc
          obtain ⟨kr, hr, rfl⟩ := Option.map_eq_some_iff.1 h
          obtain ⟨x, hxf⟩ := hx f (by simp)
          rw [ho, hc] at hxf
          have h1 := ih _ _ _ _ hg hxf
          have h2 := flat_fields ih cs fs (off + kf.length) kr hr (fun f' hf' => hx f' (by simp [hf']))
          have e : (cs.drop off).take (kf ++ kr).length = (cs.drop off).take kf.length ++ (cs.drop (off + kf.length)).take kr.length := by
            rw [List.length_append, List.take_add, List.drop_drop]
          rw [e]
          exact h1.append h2
        · cases h
      · cases h
    · cases h
theorem flat_fits : ∀ (n m : Nat) (t : TypeId) (ks : List Kd) (cs : List Value) (x : DataW H × List MemPlace), flatK P n t = some ks → DataW.trod enc P W 0 (fun _ => true) true m t cs = some x → Fit2 ks cs
  | 0, _, _, _, _, _, h, _ => by simp [flatK] at h
  | n + 1, 0, _, _, _, _, _, h => by simp [DataW.trod] at h
  | n + 1, m + 1, t, ks, cs, x, hk, ht => by
    unfold flatK at hk
    split at hk
    · rename_i k hu
      injection hk with hk
      subst hk
      obtain ⟨z, rfl, _, hw⟩ := DataW.trod_int hu ht
      exact ⟨⟨z, rfl, hw⟩, trivial⟩
    · rename_i hu
      injection hk with hk
      subst hk
      unfold DataW.trod at ht
      rw [hu] at ht
      split at ht <;> simp_all
      exact ⟨⟨_, rfl, ht.1⟩, trivial⟩
    · rename_i hu
      injection hk with hk
      subst hk
      unfold DataW.trod at ht
      rw [hu] at ht
      split at ht <;> simp_all
      exact ⟨⟨_, rfl⟩, trivial⟩
    · rename_i e hu
      injection hk with hk
      subst hk
      unfold DataW.trod at ht
      rw [hu] at ht
      split at ht <;> simp_all
      · exact ⟨⟨_, _, _, rfl, Nat.le_refl _, by unfold maxLen; omega⟩, trivial⟩
      · exact ⟨⟨_, _, _, rfl, ht.1.1, ht.1.2⟩, trivial⟩
    · rename_i fs hu
      split at hk
      · rename_i kk hf
        split at hk
        · rename_i hc
          injection hk with hk
          subst hk
          obtain ⟨xs, n', hn', _, hlen, hxl, hff⟩ := DataW.trod_struct hu ht
          have h2 := flat_fields (enc := enc) (W := W) (m := n') (fun t ks cs x a b => flat_fits n n' t ks cs x a b) cs fs.toList 0 kk hf (fun f hf' => by
            obtain ⟨i, hi, rfl⟩ := List.mem_iff_getElem.1 hf'
            have hi' : i < fs.size := by simpa using hi
            have := hff i _ (by rw [Array.getElem?_eq_getElem hi'])
            simp only [Array.getElem_toList]
            exact ⟨xs[i]'(by rw [hxl]; exact hi'), by rw [this, List.getElem?_eq_getElem]⟩)
          rw [List.drop_zero, List.take_of_length_le (by rw [hlen, hc]; exact Nat.le_refl _)] at h2
          exact h2
        · cases hk
      · cases hk
    · cases hk
end
end Go.Proofs.Ytpbgelhjbfckcaa
/- What came in as a list of operations, or as one. -/
namespace Go.Proofs.Ytpbgelhjbfckcaa
open Go.ChangeShapes Go.WideShapes Go.ChangeAt Go.RowKit
set_option linter.unusedVariables false
set_option linter.unusedSimpArgs false

def kI : Kd := .i .i64
/-- The kinds of an operation's cells. -/
def opKinds : List Kd := [kI, kI, kI, .s, kI, kI, kI, kI, kI, kI, .s, kI, kI, kI, kI, kI, .l, .l, kI, kI, kI, kI, kI, kI, kI, kI, kI, kI, kI, kI, kI, .l, .l, .l, .l, .l, .l, .l, .l, kI, kI, kI, kI, kI, kI, kI, kI, .b, .l, kI, .s, .b, .b]
theorem op_kinds : flatK Try.prog 10 43 = some opKinds := by kernel_rfl
theorem wf_i64 {n : Int} (h : (Lit.int .i64 n).wf = true) : -9223372036854775808 ≤ n ∧ n ≤ 9223372036854775807 := by
  simpa [Lit.wf, IntKind.min, IntKind.max, IntKind.signed, IntKind.bits] using h
theorem fit_op {cs : List Value} (h : Fit2 opKinds cs) : ∃ x : OpV, cs = x.cells ∧ x.Ok := by
  have hl := h.len
  obtain ⟨v0, h0, z0, rfl, w0⟩ := h.at 0 rfl
  obtain ⟨v1, h1, z1, rfl, w1⟩ := h.at 1 rfl
  obtain ⟨v2, h2, z2, rfl, w2⟩ := h.at 2 rfl
  obtain ⟨v3, h3, z3, rfl, w3⟩ := h.at 3 rfl
  obtain ⟨v4, h4, z4, rfl, w4⟩ := h.at 4 rfl
  obtain ⟨v5, h5, z5, rfl, w5⟩ := h.at 5 rfl
  obtain ⟨v6, h6, z6, rfl, w6⟩ := h.at 6 rfl
  obtain ⟨v7, h7, z7, rfl, w7⟩ := h.at 7 rfl
  obtain ⟨v8, h8, z8, rfl, w8⟩ := h.at 8 rfl
  obtain ⟨v9, h9, z9, rfl, w9⟩ := h.at 9 rfl
  obtain ⟨v10, h10, z10, rfl, w10⟩ := h.at 10 rfl
  obtain ⟨v11, h11, z11, rfl, w11⟩ := h.at 11 rfl
  obtain ⟨v38, h38, A38, n38, c38, rfl, w38, u38⟩ := h.at 38 rfl
  obtain ⟨v48, h48, A48, n48, c48, rfl, w48, u48⟩ := h.at 48 rfl
  obtain ⟨v50, h50, z50, rfl, w50⟩ := h.at 50 rfl
  obtain ⟨v52, h52, z52, rfl⟩ := h.at 52 rfl
  have hones := h.ones
  have hl' : cs.length = 53 := hl
  let mv : MV := ⟨z5, z6, z7, z8, z9, z10, z11, (cs.drop 12).take 40⟩
  have hrest : ∀ i, i < 40 → mv.rest[i]? = cs[12 + i]? := fun i hi => by
    show ((cs.drop 12).take 40)[i]? = _
    rw [List.getElem?_take, if_pos hi, List.getElem?_drop]
  have hrl : mv.rest.length = 40 := by
    show ((cs.drop 12).take 40).length = 40
    simp [hl']
  refine ⟨⟨z0, z1, z2, z3, z4, mv, z52⟩, ?_, ⟨⟨hrl, fun v hv => hones v (List.mem_of_mem_drop (List.mem_of_mem_take hv)), wf_i64 w11⟩, w3, w10, ⟨A38, n38, c38, by rw [hrest 26 (by omega)]; exact h38, by omega⟩, ⟨A48, n48, c48, by rw [hrest 36 (by omega)]; exact h48, by omega⟩, ⟨z50, by rw [hrest 38 (by omega)]; exact h50, w50⟩⟩⟩
  refine List.ext_getElem? fun i => ?_
  match i with
  | 0 => exact h0
  | 1 => exact h1
  | 2 => exact h2
  | 3 => exact h3
  | 4 => exact h4
  | 5 => exact h5
  | 6 => exact h6
  | 7 => exact h7
  | 8 => exact h8
  | 9 => exact h9
  | 10 => exact h10
  | 11 => exact h11
  | i + 12 =>
    show cs[i + 12]? = (mv.rest ++ [Value.bool z52])[i]?
    by_cases hi : i < 40
    · rw [List.getElem?_append_left (by omega), hrest i hi, Nat.add_comm]
    · rw [List.getElem?_append_right (by omega), hrl]
      by_cases hi2 : i = 40
      · subst hi2; exact h52
      · rw [List.getElem?_eq_none (by omega), List.getElem?_eq_none (by simp; omega)]
set_option maxRecDepth 100000 in
theorem open_opc {H : Type} {enc : TypeId × Value → H} {W : World} {fuel : Nat} {cs : List Value} {x : DataW H × List MemPlace} (h : DataW.trod enc Try.prog W 0 (fun _ => true) true fuel 43 cs = some x) : ∃ o : OpV, cs = o.cells ∧ o.Ok :=
  fit_op (flat_fits 10 fuel _ _ _ _ op_kinds h)
instance : Inhabited OpV := ⟨⟨0, 0, 0, ⟨#[]⟩, 0, ⟨0, 0, 0, 0, 0, ⟨#[]⟩, 0, []⟩, false⟩⟩
set_option maxRecDepth 100000 in
theorem open_ops {H : Type} {enc : TypeId × Value → H} {W : World} {r : Reach} {b0 : Nat} {v : Value} {d : DataW H} {p : List MemPlace}
    (hv : Value.okWide Try.prog W r b0 26 v) (h : DataW.Trod enc Try.prog W 0 (fun _ => true) true 26 v d p) : ∃ l, OpsIn W v l := by
  obtain ⟨a, n, c, rfl⟩ := okWide_slice Try.underlying26 hv
  obtain ⟨fuel, hf⟩ := h
  have c53 : Try.prog.cellsOf 43 = 53 := by kernel_rfl
  rcases Go.Deep.open_slice Try.underlying26 hf with ⟨hcs, _⟩ | ⟨a', len, cap, m, nn, D, Pl, hcs, _, hl, hm, hmm, _, hx⟩
  · simp [Value.cells] at hcs
    obtain ⟨rfl, rfl, rfl⟩ := hcs
    exact ⟨[], none, 0, rfl, Nat.le_refl _, by unfold maxLen; omega, (fun x hx => by cases hx), fun h => by simp at h⟩
  · simp [Value.cells] at hcs
    obtain ⟨rfl, rfl, rfl⟩ := hcs
    simp at hmm
    subst hmm
    obtain ⟨X, hX⟩ := Go.Deep.choose_lt (α := OpV) (n := n) (p := fun i o => o.Ok ∧ ∀ j, j < 53 → W.cell? ((a'.add (i * 53)).add j) = o.cells[j]?) (fun i hi => by
      obtain ⟨cs', h1, h2⟩ := hx i (by omega)
      rw [c53] at h1
      obtain ⟨_, hlen, hc⟩ := World.cells?_some h1
      obtain ⟨o, rfl, hok⟩ := open_opc h2
      exact ⟨o, hok, fun j hj => hc j hj⟩)
    have hll : ((List.range n).map X).length = n := by simp
    refine ⟨(List.range n).map X, some a', m, by rw [hll], by omega, hm, fun x hx => ?_, fun h0 => ?_⟩
    · obtain ⟨i, hi, rfl⟩ := List.mem_map.1 hx
      exact (hX i (List.mem_range.1 hi)).1
    · rw [hll] at h0
      have hc0 := (hX 0 h0).2 0 (by decide)
      rw [Nat.zero_mul] at hc0
      have hsp : a'.spot = none := by
        have e1 := (cell_plain (v := .int .i64 (X 0).kind) hc0).1
        obtain ⟨b, o, s⟩ := a'
        have := congrArg Addr.spot e1
        simp only [Addr.add] at this
        simpa using this
      obtain ⟨b, o, s⟩ := a'
      simp only at hsp
      subst hsp
      have hbl := (cell_plain (v := .int .i64 (X 0).kind) hc0).2
      refine ⟨b, o, rfl, ?_, fun i hi j v hj => ?_⟩
      · simpa [Addr.add] using hbl
      · rw [hll] at hi
        have hjl : j < 53 := by
          have := (List.getElem?_eq_some_iff.1 hj).1
          rw [List.getElem_map, List.getElem_range, ((hX i hi).1).size] at this
          exact this
        have hh := (hX i hi).2 j hjl
        rw [add_plain, add_plain] at hh
        rw [hh]
        rw [List.getElem_map, List.getElem_range] at hj
        exact hj
set_option maxRecDepth 100000 in
theorem open_op1 {H : Type} {enc : TypeId × Value → H} {W : World} {r : Reach} {b0 : Nat} {v : Value} {d : DataW H} {p : List MemPlace}
    (hv : Value.okWide Try.prog W r b0 43 v) (h : DataW.Trod enc Try.prog W 0 (fun _ => true) true 43 v d p) : ∃ x : OpV, v = .agg x.cells.toArray ∧ x.Ok := by
  obtain ⟨fuel, hf⟩ := h
  obtain ⟨x, hx, hok⟩ := open_opc hf
  refine ⟨x, ?_, hok⟩
  cases v with
  | agg cs =>
    have : cs.toList = x.cells := hx
    rw [← this]
  | _ =>
    have h1 := congrArg List.length hx
    rw [hok.size] at h1
    simp [Value.cells] at h1
end Go.Proofs.Ytpbgelhjbfckcaa
