/- What a crash with all survivors leaves. -/
import Derived.Test.YtlpnichgfhgdmaaDurable
namespace Go.Proofs.Ytlpnichgfhgdmaa
open Go.ChangeShapes Go.WideShapes Go.ChangeAt Go.RowKit
set_option linter.unusedVariables false

/-- The last content of page i, when p was the first. -/
def last1 (p : List UInt8) (ws : List (Nat × List UInt8)) (i : Nat) : List UInt8 := ws.foldl (fun a w => if w.1 = i then w.2 else a) p
theorem last1_cons (p : List UInt8) (w : Nat × List UInt8) (ws : List (Nat × List UInt8)) (i : Nat) : last1 p (w :: ws) i = last1 (if w.1 = i then w.2 else p) ws i := rfl
theorem content_last (D : DS) (i : Nat) : content D i = last1 (D.pages.getD i []) D.pend i := by
  unfold content hist
  generalize D.pages.getD i [] = p
  induction D.pend generalizing p with
  | nil => rfl
  | cons w ws ih =>
    rw [last1_cons]
    by_cases h : w.1 = i
    · rw [if_pos h, ← ih]
      have : (w.1 == i) = true := by simpa using h
      simp only [List.filter_cons, this, if_true, List.map_cons]
      rw [List.getLast?_cons_cons]
    · rw [if_neg h, ← ih]
      have : (w.1 == i) = false := by simpa using h
      simp only [List.filter_cons, this]
      rfl
theorem mixed_all (page data : List UInt8) (n : Int) (h : 128 ≤ n) (h1 : page.length = 128) (h2 : data.length = 128) : mixed page data n = data := by
  have e : (min (max n 0) 128).toNat = 128 := by omega
  unfold mixed
  rw [e, List.take_of_length_le (by omega), List.drop_eq_nil_of_le (by omega), List.append_nil]
theorem settleFrom_full (f : Nat → Int) : ∀ (ws : List (Nat × List UInt8)) (k : Nat) (ps : List (List UInt8)), (∀ p ∈ ps, p.length = 128) → (∀ w ∈ ws, w.1 < ps.length ∧ w.2.length = 128) → (∀ j, k ≤ j → j < k + ws.length → 128 ≤ f j) →
    ∀ i, (settleFrom f k ws ps).getD i [] = last1 (ps.getD i []) ws i
  | [], _, _, _, _, _, _ => rfl
  | w :: ws, k, ps, hp, hw, hf, i => by
    have h1 := hw w (by simp)
    have hg : (ps.getD w.1 []).length = 128 := by rw [List.getD_eq_getElem?_getD, List.getElem?_eq_getElem h1.1]; exact hp _ (List.getElem_mem _)
    show (settleFrom f (k + 1) ws (ps.set w.1 (mixed (ps.getD w.1 []) w.2 (f k)))).getD i [] = _
    rw [mixed_all _ _ _ (hf k (Nat.le_refl _) (by simp)) hg h1.2]
    rw [settleFrom_full f ws (k + 1) (ps.set w.1 w.2) (fun p hpp => by
      rcases List.mem_or_eq_of_mem_set hpp with e | e
      · exact hp p e
      · rw [e]; exact h1.2) (fun x hx => by rw [List.length_set]; exact hw x (by simp [hx])) (fun j h2 h3 => hf j (by omega) (by simp at h3 ⊢; omega)) i, last1_cons]
    congr 1
    rw [List.getD_eq_getElem?_getD, List.getElem?_set]
    by_cases h : w.1 = i
    · rw [if_pos h, if_pos h]
      have : i < ps.length := by omega
      simp [h1.1]
    · rw [if_neg h, if_neg h, ← List.getD_eq_getElem?_getD]
/-- If all pending writes survive completely, a crash changes no content. -/
theorem crash_all {D : DS} (h : D.Ok) (s : List Int) (hl : s.length = D.pend.length) (hs : ∀ x ∈ s, 128 ≤ x) : dContents (dCrash D s) = dContents D := by
  have e : ∀ i, content (dCrash D s) i = content D i := fun i => by
    rw [content_last, content_last]
    show last1 ((settleFrom (fun i => s.getD i 0) 0 D.pend D.pages).getD i []) [] i = _
    rw [settleFrom_full _ D.pend 0 D.pages h.pages h.pend (fun j _ hj => ?_) i]
    · rfl
    · have hjl : j < s.length := by omega
      rw [List.getD_eq_getElem?_getD, List.getElem?_eq_getElem hjl]
      exact hs _ (List.getElem_mem _)
  unfold dContents catTo
  rw [dCrash_len h]
  rw [show content (dCrash D s) = content D from funext e]
end Go.Proofs.Ytlpnichgfhgdmaa
