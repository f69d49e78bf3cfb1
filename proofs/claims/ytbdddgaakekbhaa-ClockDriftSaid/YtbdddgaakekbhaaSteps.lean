/- Slices of steps: as they come in, and how a loop reads them. -/
import Derived.Test.YtbdddgaakekbhaaFns
namespace Go.Proofs.Ytbdddgaakekbhaa
open Go.ChangeShapes Go.WideShapes Go.ChangeAt Go.RowKit Go.Deep

/-- The slice v holds the steps l (ticks, rate). -/
def StepsIn (w : World) (v : Value) (l : List (Int × Int)) : Prop :=
  ∃ A c, v = .slice A l.length c ∧ l.length ≤ 9223372036854775807 ∧ (∀ p ∈ l, -9223372036854775808 ≤ p.1 ∧ p.1 ≤ 9223372036854775807) ∧
    (0 < l.length → ∃ b off, A = some ⟨b, off, none⟩ ∧ b < w.heap.size ∧ ∀ j (h : j < l.length), w.cell? ⟨b, off + j * 2, none⟩ = some (.int .i64 l[j].1) ∧ w.cell? ⟨b, off + j * 2 + 1, none⟩ = some (.int .i64 l[j].2))

theorem cellsOf32 : Try.prog.cellsOf 32 = 2 := by kernel_rfl
theorem cellsOf3 : Try.prog.cellsOf 3 = 1 := by kernel_rfl

theorem wf_bounds {n : Int} (h : (Lit.int .i64 n).wf = true) : -9223372036854775808 ≤ n ∧ n ≤ 9223372036854775807 := by
  simpa [Lit.wf, IntKind.min, IntKind.max, IntKind.signed, IntKind.bits] using h

theorem open_steps {H : Type} {enc : TypeId × Value → H} {W : World} {r : Reach} {b0 : Nat} {v : Value} {d : DataW H} {p : List MemPlace}
    (hv : Value.okWide Try.prog W r b0 22 v) (h : DataW.Trod enc Try.prog W 0 (fun _ => true) true 22 v d p) : ∃ l, StepsIn W v l := by
  obtain ⟨a, n, c, rfl⟩ := okWide_slice Try.underlying22 hv
  obtain ⟨fuel, hf⟩ := h
  rcases open_slice_pairs Try.underlying22 Try.underlying32 cellsOf32 rfl rfl cellsOf3 cellsOf3 hf with ⟨hcs, _⟩ | ⟨a', len, cap, m, k, V0, V1, D0, D1, P0, P1, hcs, _, hl, hm, hmm, _, hall⟩
  · simp [Value.cells] at hcs
    obtain ⟨rfl, rfl, rfl⟩ := hcs
    exact ⟨[], none, 0, rfl, by simp, by simp, fun h => by simp at h⟩
  · simp [Value.cells] at hcs
    obtain ⟨rfl, rfl, rfl⟩ := hcs
    simp at hmm
    subst hmm
    have hx : ∀ i, i < n → ∃ q : Int × Int, V0 i = .int .i64 q.1 ∧ V1 i = .int .i64 q.2 ∧ (Lit.int .i64 q.1).wf = true := by
      intro i hi
      obtain ⟨_, _, h3, h4⟩ := hall i (by omega)
      obtain ⟨x, e1, _, w1⟩ := DataW.trod_int Try.underlying3 h3
      obtain ⟨y, e2, _, w2⟩ := DataW.trod_int Try.underlying3 h4
      simp at e1 e2
      exact ⟨(x, y), e1, e2, w1⟩
    obtain ⟨f, hf⟩ := choose_lt hx
    have hlen : ((List.range n).map f).length = n := by simp
    refine ⟨(List.range n).map f, some a', _, by rw [hlen], by rw [hlen]; unfold maxLen at hm; omega, ?_, fun h0 => ?_⟩
    · intro q hq
      obtain ⟨i, hi, rfl⟩ := List.mem_map.1 hq
      exact wf_bounds (hf i (List.mem_range.1 hi)).2.2
    · rw [hlen] at h0
      obtain ⟨e1, e2⟩ := cell_plain (hall 0 (by omega)).1
      have e3 : a' = ⟨a'.block, a'.off, none⟩ := by
        obtain ⟨b, o, s⟩ := a'
        have := congrArg Addr.spot e1
        simp only [Addr.add] at this
        simp at this
        simp [this]
      refine ⟨a'.block, a'.off, by rw [← e3], ?_, fun j hj => ?_⟩
      · have : (a'.add (0 * 2)).block = a'.block := by simp [Addr.add]
        omega
      · rw [hlen] at hj
        obtain ⟨g1, g2, _⟩ := hall j (by omega)
        obtain ⟨f1, f2, _⟩ := hf j hj
        rw [e3, add_plain, f1] at g1
        rw [e3, add_plain, f2] at g2
        refine ⟨by rw [g1]; simp, ?_⟩
        rw [show a'.off + j * 2 + 1 = a'.off + (j * 2 + 1) from by omega, g2]; simp

/-- What a loop's round reads of element k. -/
theorem StepsIn.at_ {w w' : World} {A : Option Addr} {n c : Nat} {l : List (Int × Int)} (h : StepsIn w (.slice A n c) l) (hb : Below w.heap.size w w') {k : Nat} (hk : k < n) :
    ∃ b off t r, A = some ⟨b, off, none⟩ ∧ b < w.heap.size ∧ l[k]? = some (t, r) ∧ -9223372036854775808 ≤ t ∧ t ≤ 9223372036854775807 ∧ w'.cell? ⟨b, off + k * 2, none⟩ = some (.int .i64 t) ∧ w'.cell? ⟨b, off + k * 2 + 1, none⟩ = some (.int .i64 r) := by
  obtain ⟨A', c', hv, hm, hwf, hc⟩ := h
  injection hv with e1 e2 e3
  subst e1 e2 e3
  obtain ⟨b, off, rfl, hbl, hcell⟩ := hc (by omega)
  obtain ⟨c1, c2⟩ := hcell k hk
  have hw := hwf l[k] (List.getElem_mem _)
  refine ⟨b, off, l[k].1, l[k].2, rfl, hbl, List.getElem?_eq_getElem hk, hw.1, hw.2, ?_, ?_⟩
  · rw [hb.cell (p := ⟨b, _, none⟩) hbl]; exact c1
  · rw [hb.cell (p := ⟨b, _, none⟩) hbl]; exact c2
theorem StepsIn.form {w : World} {v : Value} {l : List (Int × Int)} (h : StepsIn w v l) : ∃ A c, v = .slice A l.length c ∧ l.length ≤ 9223372036854775807 := by
  obtain ⟨A, c, hv, hm, _⟩ := h
  exact ⟨A, c, hv, hm⟩
/-- Where a loop over steps stands: the clock in block g has u units and t ticks; nothing below B has turned. -/
def At (W : World) (g : Nat) (u t : Int) (wr : World) : Prop := CB wr g u t ∧ Fits u t ∧ Below W.heap.size W wr ∧ W.heap.size ≤ g
theorem CB.drew {w : World} {g : Nat} {u t : Int} (h : CB w g u t) : CB w.drew g u t := h
theorem grown_undrew {w w' : World} {row : Option Nat} (h : w.drew.grownBy w' row) : w.grownBy w' row := ⟨h.os, h.tape, h.output, h.size, h.block⟩
theorem At.adv {W w w' : World} {g : Nat} {u t k r : Int} (h : At W g u t w) (hc : CB w' g (advU u t k r) (advT t k r)) (hg : w.grownBy w' (some g)) : At W g (advU u t k r) (advT t k r) w' :=
  ⟨hc, fits_adv h.2.1, below_grown h.2.2.1 hg h.2.2.1.size h.2.2.2, h.2.2.2⟩

theorem now_bd {u t : Int} (h : Fits u t) : 0 ≤ u ∧ u ≤ 71468255805440 := by unfold Fits at h; omega
theorem advT_ok {t k r : Int} (h : advE t k r = 0) : advT t k r = t + k := by unfold advT; rw [if_pos h]
theorem advT_no {t k r : Int} (h : ¬ advE t k r = 0) : advT t k r = t := by unfold advT; rw [if_neg h]
/-- What a clock gains while it goes from (u, t) to (u', t'). -/
def Went (u t u' t' : Int) : Prop := 63 * (t' - t) ≤ u' - u ∧ u' - u ≤ 65 * (t' - t) ∧ t ≤ t'
theorem adv_bd {t k r u : Int} (_ : Fits u t) (h : advE t k r = 0) : 0 ≤ k ∧ k ≤ 1099511627776 - t := by
  unfold advE at h
  split at h
  · omega
  · split at h <;> omega
theorem went_adv {u t u' t' k r : Int} (h : Went u t u' t') : Went u t (advU u' t' k r) (advT t' k r) := by
  unfold Went advU advT at *
  by_cases e : advE t' k r = 0
  · rw [if_pos e, if_pos e]
    unfold advE at e
    split at e
    · omega
    · split at e
      · omega
      · have := mul_rate (k := k) (r := r) (by omega) (by omega) (by omega)
        omega
  · rw [if_neg e, if_neg e]; exact h
theorem true_law {u t u' t' : Int} (h0 : Fits u t) (hf : Fits u' t') (h : Went u t u' t') : 0 ≤ u' / 64 - u / 64 ∧ u' / 64 - u / 64 ≤ 1125899906842624 ∧ ls (u' / 64 - u / 64) ≤ t' - t ∧ t' - t ≤ ms (u' / 64 - u / 64) := by
  unfold Fits Went ls ms at *
  refine ⟨by omega, ?_, ?_, ?_⟩
  · omega
  · split <;> omega
  · split <;> omega

end Go.Proofs.Ytbdddgaakekbhaa
