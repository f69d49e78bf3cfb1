/- Package clock and its reference, function by function: what each call returns and what it does to memory. -/
import Derived.Test.YtbdddgaakekbhaaBase
import Derived.Lib.Hide
namespace Go.Proofs.Ytbdddgaakekbhaa
open Go.ChangeShapes Go.WideShapes Go.ChangeAt Go.RowKit

/-- Block g is a clock of u units and t ticks. -/
def CB (w : World) (g : Nat) (u t : Int) : Prop := w.heap[g]? = some (.cells #[.int .i64 u, .int .i64 t] 47 (0, 0))

theorem CB.c0 {w : World} {g : Nat} {u t : Int} (h : CB w g u t) : w.cell? ⟨g, 0, none⟩ = some (.int .i64 u) := by unfold CB at h; simp [World.cell?, h]
theorem CB.c1 {w : World} {g : Nat} {u t : Int} (h : CB w g u t) : w.cell? ⟨g, 1, none⟩ = some (.int .i64 t) := by unfold CB at h; simp [World.cell?, h]
theorem CB.f {w : World} {g : Nat} {u t : Int} (h : CB w g u t) (i : Nat) : w.frozen? ⟨g, i, none⟩ = false := by unfold CB at h; simp [World.frozen?, h]
theorem CB.lt {w : World} {g : Nat} {u t : Int} (h : CB w g u t) : g < w.heap.size := by
  rcases Nat.lt_or_ge g w.heap.size with hlt | hge
  · exact hlt
  · unfold CB at h; rw [Array.getElem?_eq_none hge] at h; cases h
theorem CB.grown {w w' : World} {g : Nat} {u t : Int} {row : Option Nat} (h : CB w g u t) (hg : w.grownBy w' row) (hne : some g ≠ row) : CB w' g u t := (hg.block g h.lt hne).trans h
theorem CB.below {w w' : World} {g B : Nat} {u t : Int} (h : CB w g u t) (hb : Below B w w') (hg : g < B) : CB w' g u t := (hb.block g hg).trans h
theorem CB.alloc {w : World} {g : Nat} {u t : Int} (h : CB w g u t) (o : Obj) : CB (w.alloc o) g u t := (Below.heap_alloc w o g h.lt).trans h
theorem CB.new (w : World) (u t : Int) : CB (w.alloc (.cells #[.int .i64 u, .int .i64 t] 47)) w.heap.size u t := heap_alloc_new w _
theorem CB.set {w : World} {g : Nat} {u t u' t' : Int} (h : CB w g u t) : CB ((w.setCell ⟨g, 0, none⟩ (.int .i64 u')).setCell ⟨g, 1, none⟩ (.int .i64 t')) g u' t' := by
  unfold CB at h ⊢
  simp [World.setCell, Array.getElem?_modify, h]

def advE (t k r : Int) : Int := if r < 63 ∨ 65 < r then 1 else if k < 0 ∨ 1099511627776 - t < k then 2 else 0
def advU (u t k r : Int) : Int := if advE t k r = 0 then u + k * r else u
def advT (t k r : Int) : Int := if advE t k r = 0 then t + k else t
/-- What a clock can hold. -/
def Fits (u t : Int) : Prop := 0 ≤ t ∧ t ≤ 1099511627776 ∧ 63 * t ≤ u ∧ u ≤ 65 * t
theorem mul_rate {k r : Int} (hk : 0 ≤ k) (h1 : 63 ≤ r) (h2 : r ≤ 65) : 63 * k ≤ k * r ∧ k * r ≤ 65 * k := by
  have h : r = 63 ∨ r = 64 ∨ r = 65 := by omega
  rcases h with rfl | rfl | rfl <;> omega
theorem fits_adv {u t k r : Int} (h : Fits u t) : Fits (advU u t k r) (advT t k r) := by
  unfold Fits advU advT at *
  by_cases e : advE t k r = 0
  · rw [if_pos e, if_pos e]
    unfold advE at e
    split at e
    · omega
    · split at e
      · omega
      · have := mul_rate (k := k) (r := r) (by omega) (by omega) (by omega)
        omega
  · rw [if_neg e, if_neg e]; exact h

theorem new_c (w : World) : Calls Try.prog 11 #[] w fun e w' => e = .returned (.pointer (some ⟨w.heap.size, 0, none⟩)) ∧ w.alloc (.cells #[.int .i64 0, .int .i64 0] 47) = w' := by
  go_enter Try.func11, Try.ntmps11
  go_wp2
  go_ret
  exact ⟨rfl, rfl⟩

theorem now_c (w : World) (g : Nat) (u t : Int) (h : CB w g u t) (h0 : 0 ≤ u) (h1 : u ≤ 71468255805440) :
    Calls Try.prog 15 #[.pointer (some ⟨g, 0, none⟩)] w fun e w' => e = .returned (.int .i64 (u / 64)) ∧ w = w' := by
  have c0 := h.c0
  go_enter Try.func15, Try.ntmps15
  go_wp2
  go_ret
  exact ⟨rfl, rfl⟩

theorem clone_c (w : World) (g : Nat) (u t : Int) (h : CB w g u t) :
    Calls Try.prog 12 #[.pointer (some ⟨g, 0, none⟩)] w fun e w' => e = .returned (.pointer (some ⟨w.heap.size, 0, none⟩)) ∧ w.alloc (.cells #[.int .i64 u, .int .i64 t] 47) = w' := by
  have c0 := h.c0
  have c1 := h.c1
  have hl := h.lt
  go_enter Try.func12, Try.ntmps12
  go_wp2
  go_ret
  exact ⟨rfl, rfl⟩

set_option maxHeartbeats 1000000 in
theorem advance_c (w : World) (g : Nat) (u t k r : Int) (h : CB w g u t) (hf : Fits u t) :
    Calls Try.prog 14 #[.pointer (some ⟨g, 0, none⟩), .int .i64 k, .int .i64 r] w fun e w' => e = .returned (.int .i64 (advE t k r)) ∧ CB w' g (advU u t k r) (advT t k r) ∧ w.grownBy w' (some g) := by
  have c0 := h.c0
  have c1 := h.c1
  have f0 := h.f 0
  have f1 := h.f 1
  obtain ⟨b1, b2, b3, b4⟩ := hf
  by_cases h1 : r < 63
  · have e : advE t k r = 1 := by unfold advE; rw [if_pos (Or.inl h1)]
    have H := Lib.hid e; clear e
    go_enter Try.func14, Try.ntmps14
    go_wp2
    go_ret
    exact ⟨by rw [H.out]; rfl, by unfold advU advT; rw [H.out]; exact h, grown_refl _ _⟩
  by_cases h2 : 65 < r
  · have e : advE t k r = 1 := by unfold advE; rw [if_pos (Or.inr h2)]
    have H := Lib.hid e; clear e
    go_enter Try.func14, Try.ntmps14
    go_wp2
    go_ret
    exact ⟨by rw [H.out]; rfl, by unfold advU advT; rw [H.out]; exact h, grown_refl _ _⟩
  by_cases h3 : k < 0
  · have e : advE t k r = 2 := by unfold advE; rw [if_neg (by omega), if_pos (Or.inl h3)]
    have H := Lib.hid e; clear e
    go_enter Try.func14, Try.ntmps14
    go_wp2
    go_ret
    exact ⟨by rw [H.out]; rfl, by unfold advU advT; rw [H.out]; exact h, grown_refl _ _⟩
  by_cases h4 : 1099511627776 - t < k
  · have e : advE t k r = 2 := by unfold advE; rw [if_neg (by omega), if_pos (Or.inr h4)]
    have H := Lib.hid e; clear e
    go_enter Try.func14, Try.ntmps14
    go_wp2
    go_ret
    exact ⟨by rw [H.out]; rfl, by unfold advU advT; rw [H.out]; exact h, grown_refl _ _⟩
  have e : advE t k r = 0 := by unfold advE; rw [if_neg (by omega), if_neg (by omega)]
  have H := Lib.hid e; clear e
  have hm := mul_rate (k := k) (r := r) (by omega) (by omega) (by omega)
  obtain ⟨m1, m2⟩ := hm
  go_enter Try.func14, Try.ntmps14
  go_wp2
  go_ret
  refine ⟨by rw [H.out]; rfl, ?_, grown_set (grown_set (grown_refl _ _) _ _) _ _⟩
  unfold advU advT
  rw [H.out]
  exact h.set

theorem refNow_c (w : World) (u t : Int) (h0 : 0 ≤ u) (h1 : u ≤ 71468255805440) :
    Calls Try.prog 16 #[.agg #[.int .i64 u, .int .i64 t]] w fun e w' => e = .returned (.int .i64 (u / 64)) ∧ Below w.heap.size w w' := by
  go_enter Try.func16, Try.ntmps16
  go_wp2
  go_ret
  exact ⟨rfl, by go_grown⟩

/-! ### Margins and times of a distance -/
def mg (d : Int) : Int := if d ≤ 0 then 2 else d + d / 16 + 2
def ls (d : Int) : Int := if d ≤ 0 then 0 else (64 * (d - 1) + 1 + 64) / 65
def ms (d : Int) : Int := if d ≤ 0 then 1 else (64 * d + 63) / 63

theorem mg_neg {d : Int} (h : d ≤ 0) : mg d = 2 := if_pos h
theorem mg_pos {d : Int} (h : ¬ d ≤ 0) : mg d = d + d / 16 + 2 := if_neg h
theorem ls_neg {d : Int} (h : d ≤ 0) : ls d = 0 := if_pos h
theorem ls_pos {d : Int} (h : ¬ d ≤ 0) : ls d = (64 * (d - 1) + 1 + 64) / 65 := if_neg h
theorem ms_neg {d : Int} (h : d ≤ 0) : ms d = 1 := if_pos h
theorem ms_pos {d : Int} (h : ¬ d ≤ 0) : ms d = (64 * d + 63) / 63 := if_neg h

theorem margin_c (w : World) (d : Int) (hd : d ≤ 1125899906842624) : Calls Try.prog 17 #[.int .i64 d] w fun e w' => e = .returned (.int .i64 (mg d)) ∧ w = w' := by
  by_cases h : d ≤ 0
  · have H := hide (mg_neg h)
    go_enter Try.func17, Try.ntmps17
    go_wp2
    all_goals go_ret
    all_goals exact ⟨by rw [H.out]; go_num, rfl⟩
  · have H := hide (mg_pos h)
    go_enter Try.func17, Try.ntmps17
    go_wp2
    all_goals go_ret
    all_goals exact ⟨by rw [H.out]; go_num, rfl⟩

theorem refMargin_c (w : World) (d : Int) (hd : d ≤ 1125899906842624) : Calls Try.prog 18 #[.int .i64 d] w fun e w' => e = .returned (.int .i64 (mg d)) ∧ w = w' := by
  by_cases h : d ≤ 0
  · have H := hide (mg_neg h)
    go_enter Try.func18, Try.ntmps18
    go_wp2
    all_goals go_ret
    all_goals exact ⟨by rw [H.out]; go_num, rfl⟩
  · have H := hide (mg_pos h)
    go_enter Try.func18, Try.ntmps18
    go_wp2
    all_goals go_ret
    all_goals exact ⟨by rw [H.out]; go_num, rfl⟩

theorem least_c (w : World) (d : Int) (hd : d ≤ 1125899906842624) : Calls Try.prog 19 #[.int .i64 d] w fun e w' => e = .returned (.int .i64 (ls d)) ∧ w = w' := by
  by_cases h : d ≤ 0
  · have H := hide (ls_neg h)
    go_enter Try.func19, Try.ntmps19
    go_wp2
    all_goals go_ret
    all_goals exact ⟨by rw [H.out]; go_num, rfl⟩
  · have H := hide (ls_pos h)
    have hb : (d == 0) = false := by rw [beq_eq_false_iff_ne]; omega
    go_enter Try.func19, Try.ntmps19
    go_wp2
    all_goals go_ret
    all_goals exact ⟨by rw [H.out]; go_num, rfl⟩

theorem refLeast_c (w : World) (d : Int) (hd : d ≤ 1125899906842624) : Calls Try.prog 20 #[.int .i64 d] w fun e w' => e = .returned (.int .i64 (ls d)) ∧ w = w' := by
  by_cases h : d ≤ 0
  · have H := hide (ls_neg h)
    go_enter Try.func20, Try.ntmps20
    go_wp2
    all_goals go_ret
    all_goals exact ⟨by rw [H.out]; go_num, rfl⟩
  · have H := hide (ls_pos h)
    go_enter Try.func20, Try.ntmps20
    go_wp2
    all_goals go_ret
    all_goals exact ⟨by rw [H.out]; go_num, rfl⟩

theorem most_c (w : World) (d : Int) (hd : d ≤ 1125899906842624) : Calls Try.prog 21 #[.int .i64 d] w fun e w' => e = .returned (.int .i64 (ms d)) ∧ w = w' := by
  by_cases h : d ≤ 0
  · have H := hide (ms_neg h)
    go_enter Try.func21, Try.ntmps21
    go_wp2
    all_goals go_ret
    all_goals exact ⟨by rw [H.out]; go_num, rfl⟩
  · have H := hide (ms_pos h)
    go_enter Try.func21, Try.ntmps21
    go_wp2
    all_goals go_ret
    all_goals exact ⟨by rw [H.out]; go_num, rfl⟩

theorem refMost_c (w : World) (d : Int) (hd : d ≤ 1125899906842624) : Calls Try.prog 22 #[.int .i64 d] w fun e w' => e = .returned (.int .i64 (ms d)) ∧ w = w' := by
  by_cases h : d ≤ 0
  · have H := hide (ms_neg h)
    go_enter Try.func22, Try.ntmps22
    go_wp2
    all_goals go_ret
    all_goals exact ⟨by rw [H.out]; go_num, rfl⟩
  · have H := hide (ms_pos h)
    go_enter Try.func22, Try.ntmps22
    go_wp2
    all_goals go_ret
    all_goals exact ⟨by rw [H.out]; go_num, rfl⟩

end Go.Proofs.Ytbdddgaakekbhaa
