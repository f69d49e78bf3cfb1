/- What came in as a value whose type is built of integers, texts, bools, slices and structs: the shape of its cells. -/
import Derived.Test.YtpbgelhjbfckcaaBase
namespace Go.Proofs.Ytpbgelhjbfckcaa
open Go.ChangeShapes Go.WideShapes Go.ChangeAt Go.RowKit
set_option linter.unusedVariables false

inductive Kd where
  | i (k : IntKind)
  | s
  | b
  | l
def Kd.fits : Kd → Value → Prop
  | .i k, v => ∃ n, v = .int k n ∧ (Lit.int k n).wf = true
  | .s, v => ∃ x : ByteArray, v = .string x ∧ x.size ≤ maxLen
  | .b, v => ∃ x : Bool, v = .bool x
  | .l, v => ∃ A n c, v = .slice A n c ∧ n ≤ c ∧ c ≤ maxLen
theorem Kd.one {k : Kd} {v : Value} (h : k.fits v) : v.oneCell' = true := by
  cases k with
  | i k => obtain ⟨n, rfl, _⟩ := h; rfl
  | s => obtain ⟨n, rfl, _⟩ := h; rfl
  | b => obtain ⟨n, rfl⟩ := h; rfl
  | l => obtain ⟨A, n, c, rfl, _⟩ := h; rfl
/-- The cells fit the kinds, one by one. -/
def Fit2 : List Kd → List Value → Prop
  | [], [] => True
  | k :: ks, v :: vs => k.fits v ∧ Fit2 ks vs
  | _, _ => False
theorem Fit2.len : ∀ {ks : List Kd} {vs : List Value}, Fit2 ks vs → vs.length = ks.length
  | [], [], _ => rfl
  | _ :: ks, _ :: vs, h => by simp [Fit2.len h.2]
  | [], _ :: _, h => by cases h
  | _ :: _, [], h => by cases h
theorem Fit2.append : ∀ {ks ls : List Kd} {vs ws : List Value}, Fit2 ks vs → Fit2 ls ws → Fit2 (ks ++ ls) (vs ++ ws)
  | [], _, [], _, _, h => h
  | _ :: ks, _, _ :: vs, _, h, h2 => ⟨h.1, Fit2.append h.2 h2⟩
  | [], _, _ :: _, _, h, _ => by cases h
  | _ :: _, _, [], _, h, _ => by cases h
theorem Fit2.ones : ∀ {ks : List Kd} {vs : List Value}, Fit2 ks vs → ∀ v ∈ vs, v.oneCell' = true
  | [], [], _, v, hv => by cases hv
  | _ :: ks, w :: vs, h, v, hv => by
    rcases List.mem_cons.1 hv with rfl | hv
    · exact Kd.one h.1
    · exact Fit2.ones h.2 v hv
  | [], _ :: _, h, _, _ => by cases h
  | _ :: _, [], h, _, _ => by cases h
theorem Fit2.at : ∀ {ks : List Kd} {vs : List Value} (i : Nat) {k : Kd}, Fit2 ks vs → ks[i]? = some k → ∃ v, vs[i]? = some v ∧ k.fits v
  | _ :: ks, w :: vs, 0, k, h, hk => by
    simp only [List.getElem?_cons_zero, Option.some.injEq] at hk
    subst hk
    exact ⟨w, rfl, h.1⟩
  | _ :: ks, w :: vs, i + 1, k, h, hk => by
    simp only [List.getElem?_cons_succ] at hk ⊢
    exact Fit2.at i h.2 hk
  | [], [], i, k, _, hk => by simp at hk
  | [], _ :: _, _, _, h, _ => by cases h
  | _ :: _, [], _, _, h, _ => by cases h
def flatFs (g : TypeId → Option (List Kd)) (P : Program) : Nat → List Field → Option (List Kd)
  | _, [] => some []
  | off, f :: fs => if f.offset = off then
      match g f.type with
      | some ks => if P.cellsOf f.type = ks.length then (flatFs g P (off + ks.length) fs).map (ks ++ ·) else none
      | none => none
    else none
/-- The kinds of a type's cells. -/
def flatK (P : Program) : Nat → TypeId → Option (List Kd)
  | 0, _ => none
  | n + 1, t => match P.underlying t with
    | some (.int k) => some [.i k]
    | some .string => some [.s]
    | some .bool => some [.b]
    | some (.slice _) => some [.l]
    | some (.struct fs) => match flatFs (flatK P n) P 0 fs.toList with
      | some ks => if P.cellsOf t = ks.length then some ks else none
      | none => none
    | _ => none
section
variable {H : Type} {enc : TypeId × Value → H} {P : Program} {W : World}
theorem flat_fields {g : TypeId → Option (List Kd)} {m : Nat} (ih : ∀ t ks cs x, g t = some ks → DataW.trod enc P W 0 (fun _ => true) true m t cs = some x → Fit2 ks cs) (cs : List Value) : ∀ (fs : List Field) (off : Nat) (ks : List Kd), flatFs g P off fs = some ks →
    (∀ f ∈ fs, ∃ x, DataW.trod enc P W 0 (fun _ => true) true m f.type ((cs.drop f.offset).take (P.cellsOf f.type)) = some x) → Fit2 ks ((cs.drop off).take ks.length)
  | [], off, ks, h, _ => by
    simp only [flatFs, Option.some.injEq] at h
    subst h
    simp [Fit2]
  | f :: fs, off, ks, h, hx => by
    unfold flatFs at h
    split at h
    · rename_i ho
      split at h
      · rename_i kf hg
        split at h
        · rename_i hc
          obtain ⟨kr, hr, rfl⟩ := Option.map_eq_some_iff.1 h
          obtain ⟨x, hxf⟩ := hx f (by simp)
          rw [ho, hc] at hxf
          have h1 := ih _ _ _ _ hg hxf
          have h2 := flat_fields ih cs fs (off + kf.length) kr hr (fun f' hf' => hx f' (by simp [hf']))
          have e : (cs.drop off).take (kf ++ kr).length = (cs.drop off).take kf.length ++ (cs.drop (off + kf.length)).take kr.length := by
            rw [List.length_append, List.take_add, List.drop_drop]
          rw [e]
          exact h1.append h2
        · cases h
      · cases h
    · cases h
theorem flat_fits : ∀ (n m : Nat) (t : TypeId) (ks : List Kd) (cs : List Value) (x : DataW H × List MemPlace), flatK P n t = some ks → DataW.trod enc P W 0 (fun _ => true) true m t cs = some x → Fit2 ks cs
  | 0, _, _, _, _, _, h, _ => by simp [flatK] at h
  | n + 1, 0, _, _, _, _, _, h => by simp [DataW.trod] at h
  | n + 1, m + 1, t, ks, cs, x, hk, ht => by
    unfold flatK at hk
    split at hk
    · rename_i k hu
      injection hk with hk
      subst hk
      obtain ⟨z, rfl, _, hw⟩ := DataW.trod_int hu ht
      exact ⟨⟨z, rfl, hw⟩, trivial⟩
    · rename_i hu
      injection hk with hk
      subst hk
      unfold DataW.trod at ht
      rw [hu] at ht
      split at ht <;> simp_all
      exact ⟨⟨_, rfl, ht.1⟩, trivial⟩
    · rename_i hu
      injection hk with hk
      subst hk
      unfold DataW.trod at ht
      rw [hu] at ht
      split at ht <;> simp_all
      exact ⟨⟨_, rfl⟩, trivial⟩
    · rename_i e hu
      injection hk with hk
      subst hk
      unfold DataW.trod at ht
      rw [hu] at ht
      split at ht <;> simp_all
      · exact ⟨⟨_, _, _, rfl, Nat.le_refl _, by unfold maxLen; omega⟩, trivial⟩
      · exact ⟨⟨_, _, _, rfl, ht.1.1, ht.1.2⟩, trivial⟩
    · rename_i fs hu
      split at hk
      · rename_i kk hf
        split at hk
        · rename_i hc
          injection hk with hk
          subst hk
          obtain ⟨xs, n', hn', _, hlen, hxl, hff⟩ := DataW.trod_struct hu ht
          have h2 := flat_fields (enc := enc) (W := W) (m := n') (fun t ks cs x a b => flat_fits n n' t ks cs x a b) cs fs.toList 0 kk hf (fun f hf' => by
            obtain ⟨i, hi, rfl⟩ := List.mem_iff_getElem.1 hf'
            have hi' : i < fs.size := by simpa using hi
            have := hff i _ (by rw [Array.getElem?_eq_getElem hi'])
            simp only [Array.getElem_toList]
            exact ⟨xs[i]'(by rw [hxl]; exact hi'), by rw [this, List.getElem?_eq_getElem]⟩)
          rw [List.drop_zero, List.take_of_length_le (by rw [hlen, hc]; exact Nat.le_refl _)] at h2
          exact h2
        · cases hk
      · cases hk
    · cases hk
end
end Go.Proofs.Ytpbgelhjbfckcaa
