/- The reference's turnOf and zero. -/
import Derived.Test.YtpadgkkeihhneaaGreatA30
namespace Go.Proofs.YtpadgkkeihhneaaGreat
open List renaming getElem_toArray → qa, getElem_cons_zero → qb, getElem_cons_succ → qc, setIfInBounds_toArray → qd, set_cons_zero → qe, set_cons_succ → qf
set_option maxRecDepth 100000
set_option linter.unusedSimpArgs false
set_option linter.unusedVariables false
open Go.ChangeShapes Go.WideShapes Go.ChangeAt Go.RowKit
set_option linter.unusedVariables false
set_option linter.unusedSimpArgs false

set_option maxHeartbeats 8000000 in
theorem rturn_c (v : Value) (b : List UInt8) (at_ : Nat) (hl : b.length ≤ 1000000) (w : World) (h : Bs w v b) (hv : ∀ j, v.ownBlock = some j → j < w.heap.size) :
    Calls Tryz.prog 64 #[v, .int .i64 at_] w fun e w' => e = .returned (.int .i64 (hdrOf at_ b)) ∧ Below w.heap.size w w' := by
  have H := hide h
  obtain ⟨l1, c1, n0, e0⟩ : ∃ l1 c1 n0, rNum (b, 0) = ((l1, c1), n0) := ⟨_, _, _, rfl⟩
  have HE : Hid (rd0 b = ((l1, c1), n0)) := hide e0
  have HN0 : Hid (Calls Tryz.prog 85 #[.agg #[v, .int .i64 0]] w (Got w v.ownBlock (l1, c1) (.int .u64 n0))) := hide (by have := getNumber_c v.ownBlock (.agg #[v, .int .i64 0]) b 0 w ⟨v, rfl, h, fun _ j hj => hj⟩; rwa [e0] at this)
  have g0 : n0 < 2 ^ 64 := by have := rNum_lt b 0; rwa [e0] at this
  obtain ⟨m0, hm0⟩ : ∃ m : Int, (n0 : Int) = m := ⟨_, rfl⟩
  have p0 : 0 ≤ m0 := by omega
  have z0 : m0 ≤ 18446744073709551615 := by omega
  have HM := hide hm0
  rw [hm0] at HN0
  clear hm0 g0 e0
  obtain ⟨A, m, c, rfl, _, _, _⟩ := h.formN
  clear h hl hv
  have HO := hide (Own.nil w [] (by simp))
  go_enter Tryz.func64, Tryz.ntmps64
  go_wp2_with fail
  refine HN0.out.mono ?_
  rintro e w1 ⟨rv, he, ⟨v1, rfl, hbs, hkk⟩, hb⟩
  obtain ⟨A1, t1, q1, rfl⟩ := hbs.form2
  replace he : e = .returned (.tuple #[.agg #[.slice A1 t1 q1, .int .i64 c1], .int .u64 m0]) := he
  subst he
  replace HO := hide (HO.out.step hb)
  clear hbs hkk hb HN0
  go_wp2_with (first
    | ((with_reducible refine at_alloc 132 ?_); refine wpList_alloc_own HO.out rfl 132 rfl (zrd) rrd_info ?_; intro WA b5 hO; replace HO := hide hO; clear hO)
    | ((with_reducible refine at_store 132 (.tmp 5) ?_); refine wpList_store_own HO.out rfl 132 (.tmp 5) (.tmp 11) rfl 0 _ 0 _ _ ([.slice A1 t1 q1, .int .i64 c1]) ([.slice A1 t1 q1, .int .i64 c1]) rfl (.agg ([.slice A1 t1 q1, .int .i64 c1]).toArray) rfl rfl (fits_agg _) (by simp [zrd]) (splice_all rfl) rrd_size rfl ?_; intro WA hO; replace HO := hide hO; clear hO))
  by_cases hq0 : c1 ≠ 0
  · have hd0 : (c1 != 0) = true := by simpa using hq0
    have HQ0 := hide hq0
    clear hq0
    refine wp_region_held_drew (S := fun W => ∀ j, W.cell? ⟨b5, j, none⟩ = ([.slice A1 t1 q1, .int .i64 c1] : List Value)[j]?) (by kernel_rfl) (HO.out.drew.cells 0 rfl) (fun hS0 => ?_)
    replace HO := hide HO.out.drew
    refine tk (i := 0) (v := _) rfl (by assumption) ?_
    try simp only [Act.put, qa, qb, qc, qd, qe, qf]
    refine tk (i := 1) (v := _) rfl (by assumption) ?_
    try simp only [Act.put, qa, qb, qc, qd, qe, qf]
    refine tk (i := 2) (v := _) rfl (by assumption) ?_
    try simp only [Act.put, qa, qb, qc, qd, qe, qf]
    refine tk (i := 3) (v := _) rfl (by assumption) ?_
    try simp only [Act.put, qa, qb, qc, qd, qe, qf]
    refine ty (i := 4) (v := undef) rfl (Or.inr ⟨by rfl, rfl⟩) ?_
    try simp only [Act.put, qa, qb, qc, qd, qe, qf]
    refine ty (i := 5) (v := undef) rfl (Or.inr ⟨by rfl, rfl⟩) ?_
    try simp only [Act.put, qa, qb, qc, qd, qe, qf]
    refine tk (i := 6) (v := _) rfl (by assumption) ?_
    try simp only [Act.put, qa, qb, qc, qd, qe, qf]
    refine tk (i := 7) (v := _) rfl (by assumption) ?_
    try simp only [Act.put, qa, qb, qc, qd, qe, qf]
    refine ty (i := 8) (v := undef) rfl (Or.inr ⟨by rfl, rfl⟩) ?_
    try simp only [Act.put, qa, qb, qc, qd, qe, qf]
    refine ty (i := 9) (v := undef) rfl (Or.inr ⟨by rfl, rfl⟩) ?_
    try simp only [Act.put, qa, qb, qc, qd, qe, qf]
    refine tk (i := 10) (v := _) rfl (by assumption) ?_
    try simp only [Act.put, qa, qb, qc, qd, qe, qf]
    refine tk (i := 11) (v := _) rfl (by assumption) ?_
    try simp only [Act.put, qa, qb, qc, qd, qe, qf]
    refine ty (i := 12) (v := undef) rfl (Or.inr ⟨by rfl, rfl⟩) ?_
    try simp only [Act.put, qa, qb, qc, qd, qe, qf]
    refine ty (i := 13) (v := undef) rfl (Or.inr ⟨by rfl, rfl⟩) ?_
    try simp only [Act.put, qa, qb, qc, qd, qe, qf]
    refine ty (i := 14) (v := undef) rfl (Or.inr ⟨by rfl, rfl⟩) ?_
    try simp only [Act.put, qa, qb, qc, qd, qe, qf]
    refine ty (i := 15) (v := undef) rfl (Or.inr ⟨by rfl, rfl⟩) ?_
    try simp only [Act.put, qa, qb, qc, qd, qe, qf]
    refine ty (i := 16) (v := undef) rfl (Or.inr ⟨by rfl, rfl⟩) ?_
    try simp only [Act.put, qa, qb, qc, qd, qe, qf]
    refine tk (i := 17) (v := _) rfl (by assumption) ?_
    try simp only [Act.put, qa, qb, qc, qd, qe, qf]
    refine tk (i := 18) (v := _) rfl (by assumption) ?_
    try simp only [Act.put, qa, qb, qc, qd, qe, qf]
    refine ty (i := 19) (v := undef) rfl (Or.inr ⟨by rfl, rfl⟩) ?_
    try simp only [Act.put, qa, qb, qc, qd, qe, qf]
    refine ty (i := 20) (v := undef) rfl (Or.inr ⟨by rfl, rfl⟩) ?_
    try simp only [Act.put, qa, qb, qc, qd, qe, qf]
    refine ty (i := 21) (v := undef) rfl (Or.inr ⟨by rfl, rfl⟩) ?_
    try simp only [Act.put, qa, qb, qc, qd, qe, qf]
    refine ty (i := 22) (v := undef) rfl (Or.inr ⟨by rfl, rfl⟩) ?_
    try simp only [Act.put, qa, qb, qc, qd, qe, qf]
    refine ty (i := 23) (v := undef) rfl (Or.inr ⟨by rfl, rfl⟩) ?_
    try simp only [Act.put, qa, qb, qc, qd, qe, qf]
    refine ty (i := 24) (v := undef) rfl (Or.inr ⟨by rfl, rfl⟩) ?_
    try simp only [Act.put, qa, qb, qc, qd, qe, qf]
    refine ty (i := 25) (v := undef) rfl (Or.inr ⟨by rfl, rfl⟩) ?_
    try simp only [Act.put, qa, qb, qc, qd, qe, qf]
    refine tk (i := 26) (v := _) rfl (by assumption) ?_
    try simp only [Act.put, qa, qb, qc, qd, qe, qf]
    refine wpAnyH_done (by kernel_rfl) ?_ _
    go_wp2_with fail
    go_ret
    exact ⟨ret_i64e (by rw [hdrOf_ref, HE.out]; dsimp only; rw [if_neg (fun h => by have := HM.out; exact HQ0.out h.1)]; rfl), HO.out.below⟩
  · have hd0 : (c1 != 0) = false := by simpa using hq0
    have HQ0 := hide hq0
    have HQ0 : Hid (c1 = 0) := hide (by have := HQ0.out; simpa using this)
    by_cases hq1 : m0 < 1
    · have hd1 : decide (m0 < 1) = true := by simpa using hq1
      have HQ1 := hide hq1
      clear hq1
      refine wp_region_held_drew (S := fun W => ∀ j, W.cell? ⟨b5, j, none⟩ = ([.slice A1 t1 q1, .int .i64 c1] : List Value)[j]?) (by kernel_rfl) (HO.out.drew.cells 0 rfl) (fun hS0 => ?_)
      replace HO := hide HO.out.drew
      refine tk (i := 0) (v := _) rfl (by assumption) ?_
      try simp only [Act.put, qa, qb, qc, qd, qe, qf]
      refine tk (i := 1) (v := _) rfl (by assumption) ?_
      try simp only [Act.put, qa, qb, qc, qd, qe, qf]
      refine tk (i := 2) (v := _) rfl (by assumption) ?_
      try simp only [Act.put, qa, qb, qc, qd, qe, qf]
      refine tk (i := 3) (v := _) rfl (by assumption) ?_
      try simp only [Act.put, qa, qb, qc, qd, qe, qf]
      refine tk (i := 4) (v := _) rfl (by assumption) ?_
      try simp only [Act.put, qa, qb, qc, qd, qe, qf]
      refine tk (i := 5) (v := _) rfl (by assumption) ?_
      try simp only [Act.put, qa, qb, qc, qd, qe, qf]
      refine tk (i := 6) (v := _) rfl (by assumption) ?_
      try simp only [Act.put, qa, qb, qc, qd, qe, qf]
      refine tk (i := 7) (v := _) rfl (by assumption) ?_
      try simp only [Act.put, qa, qb, qc, qd, qe, qf]
      refine ty (i := 8) (v := undef) rfl (Or.inr ⟨by rfl, rfl⟩) ?_
      try simp only [Act.put, qa, qb, qc, qd, qe, qf]
      refine ty (i := 9) (v := undef) rfl (Or.inr ⟨by rfl, rfl⟩) ?_
      try simp only [Act.put, qa, qb, qc, qd, qe, qf]
      refine tk (i := 10) (v := _) rfl (by assumption) ?_
      try simp only [Act.put, qa, qb, qc, qd, qe, qf]
      refine tk (i := 11) (v := _) rfl (by assumption) ?_
      try simp only [Act.put, qa, qb, qc, qd, qe, qf]
      refine ty (i := 12) (v := undef) rfl (Or.inr ⟨by rfl, rfl⟩) ?_
      try simp only [Act.put, qa, qb, qc, qd, qe, qf]
      refine ty (i := 13) (v := undef) rfl (Or.inr ⟨by rfl, rfl⟩) ?_
      try simp only [Act.put, qa, qb, qc, qd, qe, qf]
      refine ty (i := 14) (v := undef) rfl (Or.inr ⟨by rfl, rfl⟩) ?_
      try simp only [Act.put, qa, qb, qc, qd, qe, qf]
      refine ty (i := 15) (v := undef) rfl (Or.inr ⟨by rfl, rfl⟩) ?_
      try simp only [Act.put, qa, qb, qc, qd, qe, qf]
      refine ty (i := 16) (v := undef) rfl (Or.inr ⟨by rfl, rfl⟩) ?_
      try simp only [Act.put, qa, qb, qc, qd, qe, qf]
      refine tk (i := 17) (v := _) rfl (by assumption) ?_
      try simp only [Act.put, qa, qb, qc, qd, qe, qf]
      refine tk (i := 18) (v := _) rfl (by assumption) ?_
      try simp only [Act.put, qa, qb, qc, qd, qe, qf]
      refine ty (i := 19) (v := undef) rfl (Or.inr ⟨by rfl, rfl⟩) ?_
      try simp only [Act.put, qa, qb, qc, qd, qe, qf]
      refine ty (i := 20) (v := undef) rfl (Or.inr ⟨by rfl, rfl⟩) ?_
      try simp only [Act.put, qa, qb, qc, qd, qe, qf]
      refine ty (i := 21) (v := undef) rfl (Or.inr ⟨by rfl, rfl⟩) ?_
      try simp only [Act.put, qa, qb, qc, qd, qe, qf]
      refine ty (i := 22) (v := undef) rfl (Or.inr ⟨by rfl, rfl⟩) ?_
      try simp only [Act.put, qa, qb, qc, qd, qe, qf]
      refine ty (i := 23) (v := undef) rfl (Or.inr ⟨by rfl, rfl⟩) ?_
      try simp only [Act.put, qa, qb, qc, qd, qe, qf]
      refine ty (i := 24) (v := undef) rfl (Or.inr ⟨by rfl, rfl⟩) ?_
      try simp only [Act.put, qa, qb, qc, qd, qe, qf]
      refine ty (i := 25) (v := undef) rfl (Or.inr ⟨by rfl, rfl⟩) ?_
      try simp only [Act.put, qa, qb, qc, qd, qe, qf]
      refine tk (i := 26) (v := _) rfl (by assumption) ?_
      try simp only [Act.put, qa, qb, qc, qd, qe, qf]
      refine wpAnyH_done (by kernel_rfl) ?_ _
      go_wp2_with fail
      go_ret
      exact ⟨ret_i64e (by rw [hdrOf_ref, HE.out]; dsimp only; rw [if_neg (fun h => by have := HM.out; have := HQ1.out; have := h.2.1; omega)]; rfl), HO.out.below⟩
    · have hd1 : decide (m0 < 1) = false := by simpa using hq1
      have HQ1 := hide hq1
      clear hq1
      by_cases hq2 : 1099511627776 ≤ m0
      · have hd2 : decide (1099511627776 ≤ m0) = true := by simpa using hq2
        have HQ2 := hide hq2
        clear hq2
        refine wp_region_held_drew (S := fun W => ∀ j, W.cell? ⟨b5, j, none⟩ = ([.slice A1 t1 q1, .int .i64 c1] : List Value)[j]?) (by kernel_rfl) (HO.out.drew.cells 0 rfl) (fun hS0 => ?_)
        replace HO := hide HO.out.drew
        refine tk (i := 0) (v := _) rfl (by assumption) ?_
        try simp only [Act.put, qa, qb, qc, qd, qe, qf]
        refine tk (i := 1) (v := _) rfl (by assumption) ?_
        try simp only [Act.put, qa, qb, qc, qd, qe, qf]
        refine tk (i := 2) (v := _) rfl (by assumption) ?_
        try simp only [Act.put, qa, qb, qc, qd, qe, qf]
        refine tk (i := 3) (v := _) rfl (by assumption) ?_
        try simp only [Act.put, qa, qb, qc, qd, qe, qf]
        refine tk (i := 4) (v := _) rfl (by assumption) ?_
        try simp only [Act.put, qa, qb, qc, qd, qe, qf]
        refine tk (i := 5) (v := _) rfl (by assumption) ?_
        try simp only [Act.put, qa, qb, qc, qd, qe, qf]
        refine tk (i := 6) (v := _) rfl (by assumption) ?_
        try simp only [Act.put, qa, qb, qc, qd, qe, qf]
        refine tk (i := 7) (v := _) rfl (by assumption) ?_
        try simp only [Act.put, qa, qb, qc, qd, qe, qf]
        refine tk (i := 8) (v := _) rfl (by assumption) ?_
        try simp only [Act.put, qa, qb, qc, qd, qe, qf]
        refine tk (i := 9) (v := _) rfl (by assumption) ?_
        try simp only [Act.put, qa, qb, qc, qd, qe, qf]
        refine tk (i := 10) (v := _) rfl (by assumption) ?_
        try simp only [Act.put, qa, qb, qc, qd, qe, qf]
        refine tk (i := 11) (v := _) rfl (by assumption) ?_
        try simp only [Act.put, qa, qb, qc, qd, qe, qf]
        refine ty (i := 12) (v := undef) rfl (Or.inr ⟨by rfl, rfl⟩) ?_
        try simp only [Act.put, qa, qb, qc, qd, qe, qf]
        refine ty (i := 13) (v := undef) rfl (Or.inr ⟨by rfl, rfl⟩) ?_
        try simp only [Act.put, qa, qb, qc, qd, qe, qf]
        refine ty (i := 14) (v := undef) rfl (Or.inr ⟨by rfl, rfl⟩) ?_
        try simp only [Act.put, qa, qb, qc, qd, qe, qf]
        refine ty (i := 15) (v := undef) rfl (Or.inr ⟨by rfl, rfl⟩) ?_
        try simp only [Act.put, qa, qb, qc, qd, qe, qf]
        refine ty (i := 16) (v := undef) rfl (Or.inr ⟨by rfl, rfl⟩) ?_
        try simp only [Act.put, qa, qb, qc, qd, qe, qf]
        refine tk (i := 17) (v := _) rfl (by assumption) ?_
        try simp only [Act.put, qa, qb, qc, qd, qe, qf]
        refine tk (i := 18) (v := _) rfl (by assumption) ?_
        try simp only [Act.put, qa, qb, qc, qd, qe, qf]
        refine ty (i := 19) (v := undef) rfl (Or.inr ⟨by rfl, rfl⟩) ?_
        try simp only [Act.put, qa, qb, qc, qd, qe, qf]
        refine ty (i := 20) (v := undef) rfl (Or.inr ⟨by rfl, rfl⟩) ?_
        try simp only [Act.put, qa, qb, qc, qd, qe, qf]
        refine ty (i := 21) (v := undef) rfl (Or.inr ⟨by rfl, rfl⟩) ?_
        try simp only [Act.put, qa, qb, qc, qd, qe, qf]
        refine ty (i := 22) (v := undef) rfl (Or.inr ⟨by rfl, rfl⟩) ?_
        try simp only [Act.put, qa, qb, qc, qd, qe, qf]
        refine ty (i := 23) (v := undef) rfl (Or.inr ⟨by rfl, rfl⟩) ?_
        try simp only [Act.put, qa, qb, qc, qd, qe, qf]
        refine ty (i := 24) (v := undef) rfl (Or.inr ⟨by rfl, rfl⟩) ?_
        try simp only [Act.put, qa, qb, qc, qd, qe, qf]
        refine ty (i := 25) (v := undef) rfl (Or.inr ⟨by rfl, rfl⟩) ?_
        try simp only [Act.put, qa, qb, qc, qd, qe, qf]
        refine tk (i := 26) (v := _) rfl (by assumption) ?_
        try simp only [Act.put, qa, qb, qc, qd, qe, qf]
        refine wpAnyH_done (by kernel_rfl) ?_ _
        go_wp2_with fail
        go_ret
        exact ⟨ret_i64e (by rw [hdrOf_ref, HE.out]; dsimp only; rw [if_neg (fun h => by have := HM.out; have := HQ2.out; have := h.2.2.1; omega)]; rfl), HO.out.below⟩
      · have hd2 : decide (1099511627776 ≤ m0) = false := by simpa using hq2
        have HQ2 := hide hq2
        clear hq2
        have y0 : m0 ≤ 1099511627775 := by have := HQ2.out; omega
        have w0 : IntKind.i64.wrap m0 = m0 := IntWalk.i64_in _ (by omega)
        have tm : m0.tmod 2 = m0 % 2 := Int.tmod_eq_emod_of_nonneg p0
        by_cases hq3 : m0 % 2 ≠ (at_ : Int)
        · have hd3 : (m0 % 2 != (at_ : Int)) = true := by simpa using hq3
          have HQ3 := hide hq3
          clear hq3
          refine wp_region_held_drew (S := fun W => ∀ j, W.cell? ⟨b5, j, none⟩ = ([.slice A1 t1 q1, .int .i64 c1] : List Value)[j]?) (by kernel_rfl) (HO.out.drew.cells 0 rfl) (fun hS0 => ?_)
          replace HO := hide HO.out.drew
          refine tk (i := 0) (v := _) rfl (by assumption) ?_
          try simp only [Act.put, qa, qb, qc, qd, qe, qf]
          refine tk (i := 1) (v := _) rfl (by assumption) ?_
          try simp only [Act.put, qa, qb, qc, qd, qe, qf]
          refine tk (i := 2) (v := _) rfl (by assumption) ?_
          try simp only [Act.put, qa, qb, qc, qd, qe, qf]
          refine tk (i := 3) (v := _) rfl (by assumption) ?_
          try simp only [Act.put, qa, qb, qc, qd, qe, qf]
          refine tk (i := 4) (v := _) rfl (by assumption) ?_
          try simp only [Act.put, qa, qb, qc, qd, qe, qf]
          refine tk (i := 5) (v := _) rfl (by assumption) ?_
          try simp only [Act.put, qa, qb, qc, qd, qe, qf]
          refine tk (i := 6) (v := _) rfl (by assumption) ?_
          try simp only [Act.put, qa, qb, qc, qd, qe, qf]
          refine tk (i := 7) (v := _) rfl (by assumption) ?_
          try simp only [Act.put, qa, qb, qc, qd, qe, qf]
          refine tk (i := 8) (v := _) rfl (by assumption) ?_
          try simp only [Act.put, qa, qb, qc, qd, qe, qf]
          refine tk (i := 9) (v := _) rfl (by assumption) ?_
          try simp only [Act.put, qa, qb, qc, qd, qe, qf]
          refine tk (i := 10) (v := _) rfl (by assumption) ?_
          try simp only [Act.put, qa, qb, qc, qd, qe, qf]
          refine tk (i := 11) (v := _) rfl (by assumption) ?_
          try simp only [Act.put, qa, qb, qc, qd, qe, qf]
          refine tk (i := 12) (v := _) rfl (by assumption) ?_
          try simp only [Act.put, qa, qb, qc, qd, qe, qf]
          refine tk (i := 13) (v := _) rfl (by assumption) ?_
          try simp only [Act.put, qa, qb, qc, qd, qe, qf]
          refine tk (i := 14) (v := _) rfl (by assumption) ?_
          try simp only [Act.put, qa, qb, qc, qd, qe, qf]
          refine tk (i := 15) (v := _) rfl (by assumption) ?_
          try simp only [Act.put, qa, qb, qc, qd, qe, qf]
          refine tk (i := 16) (v := _) rfl (by assumption) ?_
          try simp only [Act.put, qa, qb, qc, qd, qe, qf]
          refine tk (i := 17) (v := _) rfl (by assumption) ?_
          try simp only [Act.put, qa, qb, qc, qd, qe, qf]
          refine tk (i := 18) (v := _) rfl (by assumption) ?_
          try simp only [Act.put, qa, qb, qc, qd, qe, qf]
          refine ty (i := 19) (v := undef) rfl (Or.inr ⟨by rfl, rfl⟩) ?_
          try simp only [Act.put, qa, qb, qc, qd, qe, qf]
          refine ty (i := 20) (v := undef) rfl (Or.inr ⟨by rfl, rfl⟩) ?_
          try simp only [Act.put, qa, qb, qc, qd, qe, qf]
          refine ty (i := 21) (v := undef) rfl (Or.inr ⟨by rfl, rfl⟩) ?_
          try simp only [Act.put, qa, qb, qc, qd, qe, qf]
          refine ty (i := 22) (v := undef) rfl (Or.inr ⟨by rfl, rfl⟩) ?_
          try simp only [Act.put, qa, qb, qc, qd, qe, qf]
          refine ty (i := 23) (v := undef) rfl (Or.inr ⟨by rfl, rfl⟩) ?_
          try simp only [Act.put, qa, qb, qc, qd, qe, qf]
          refine ty (i := 24) (v := undef) rfl (Or.inr ⟨by rfl, rfl⟩) ?_
          try simp only [Act.put, qa, qb, qc, qd, qe, qf]
          refine ty (i := 25) (v := undef) rfl (Or.inr ⟨by rfl, rfl⟩) ?_
          try simp only [Act.put, qa, qb, qc, qd, qe, qf]
          refine tk (i := 26) (v := _) rfl (by assumption) ?_
          try simp only [Act.put, qa, qb, qc, qd, qe, qf]
          refine wpAnyH_done (by kernel_rfl) ?_ _
          go_wp2_with fail
          go_ret
          exact ⟨ret_i64e (by rw [hdrOf_ref, HE.out]; dsimp only; rw [if_neg (fun h => by have := HM.out; have := HQ3.out; have := h.2.2.2.1; omega)]; rfl), HO.out.below⟩
        · have hd3 : (m0 % 2 != (at_ : Int)) = false := by simpa using hq3
          have HQ3 := hide hq3
          clear hq3
          obtain ⟨P, hP⟩ : ∃ P, hdrPage n0 = P := ⟨_, rfl⟩
          have HBY : Hid (∀ W, Calls Tryz.prog 88 #[.int .i64 m0] W (Fresh W P)) := hide (fun W => by rw [← hP, ← HM.out]; exact rheader_c n0 (by have := HM.out; omega) W)
          have HP := hide hP
          clear hP
          cases hbo : (P == b)
          · have hne : Hid (P ≠ b) := hide (fun h => by rw [h, beq_self_eq_true] at hbo; cases hbo)
            refine wp_region_held_drew (S := fun W => (∀ j, W.cell? ⟨b5, j, none⟩ = ([.slice A1 t1 q1, .int .i64 c1] : List Value)[j]?) ∧ (convert 35 9 (.slice A m c)).run Tryz.prog W = .ok (.string ⟨b.toArray⟩) W) (by kernel_rfl) (⟨HO.out.drew.cells 0 rfl, run_string_bs (H.out.step HO.out.drew.below)⟩) (fun hS0 => ?_)
            replace HO := hide HO.out.drew
            refine tk (i := 0) (v := _) rfl (by assumption) ?_
            try simp only [Act.put, qa, qb, qc, qd, qe, qf]
            refine tk (i := 1) (v := _) rfl (by assumption) ?_
            try simp only [Act.put, qa, qb, qc, qd, qe, qf]
            refine tk (i := 2) (v := _) rfl (by assumption) ?_
            try simp only [Act.put, qa, qb, qc, qd, qe, qf]
            refine tk (i := 3) (v := _) rfl (by assumption) ?_
            try simp only [Act.put, qa, qb, qc, qd, qe, qf]
            refine tk (i := 4) (v := _) rfl (by assumption) ?_
            try simp only [Act.put, qa, qb, qc, qd, qe, qf]
            refine tk (i := 5) (v := _) rfl (by assumption) ?_
            try simp only [Act.put, qa, qb, qc, qd, qe, qf]
            refine tk (i := 6) (v := _) rfl (by assumption) ?_
            try simp only [Act.put, qa, qb, qc, qd, qe, qf]
            refine tk (i := 7) (v := _) rfl (by assumption) ?_
            try simp only [Act.put, qa, qb, qc, qd, qe, qf]
            refine tk (i := 8) (v := _) rfl (by assumption) ?_
            try simp only [Act.put, qa, qb, qc, qd, qe, qf]
            refine tk (i := 9) (v := _) rfl (by assumption) ?_
            try simp only [Act.put, qa, qb, qc, qd, qe, qf]
            refine tk (i := 10) (v := _) rfl (by assumption) ?_
            try simp only [Act.put, qa, qb, qc, qd, qe, qf]
            refine tk (i := 11) (v := _) rfl (by assumption) ?_
            try simp only [Act.put, qa, qb, qc, qd, qe, qf]
            refine tk (i := 12) (v := _) rfl (by assumption) ?_
            try simp only [Act.put, qa, qb, qc, qd, qe, qf]
            refine tk (i := 13) (v := _) rfl (by assumption) ?_
            try simp only [Act.put, qa, qb, qc, qd, qe, qf]
            refine tk (i := 14) (v := _) rfl (by assumption) ?_
            try simp only [Act.put, qa, qb, qc, qd, qe, qf]
            refine tk (i := 15) (v := _) rfl (by assumption) ?_
            try simp only [Act.put, qa, qb, qc, qd, qe, qf]
            refine tk (i := 16) (v := _) rfl (by assumption) ?_
            try simp only [Act.put, qa, qb, qc, qd, qe, qf]
            refine tk (i := 17) (v := _) rfl (by assumption) ?_
            try simp only [Act.put, qa, qb, qc, qd, qe, qf]
            refine tk (i := 18) (v := _) rfl (by assumption) ?_
            try simp only [Act.put, qa, qb, qc, qd, qe, qf]
            refine tk (i := 19) (v := _) rfl (by assumption) ?_
            try simp only [Act.put, qa, qb, qc, qd, qe, qf]
            refine tk (i := 20) (v := _) rfl (by assumption) ?_
            try simp only [Act.put, qa, qb, qc, qd, qe, qf]
            refine tk (i := 23) (v := _) rfl (by assumption) ?_
            try simp only [Act.put, qa, qb, qc, qd, qe, qf]
            refine tk (i := 24) (v := _) rfl (by assumption) ?_
            try simp only [Act.put, qa, qb, qc, qd, qe, qf]
            refine wpAnyH_ready (rs := [21]) (by kernel_rfl) (by simp) ?_
            refine AllReadyH.cons rfl (fun K hK => ?_) AllReadyH.nil
            go_simp
            refine (HBY.out _).mono ?_
            rintro e w5 ⟨v5, rfl, ho5, hb5⟩
            replace HO := hide (HO.out.step hb5)
            have HO5 := hide ho5.bs
            clear ho5 hb5
            refine hK.out _ _ (⟨HO.out.cells 0 rfl, run_string_bs (H.out.step HO.out.below)⟩) (fun hS23 => ?_)
            clear hK K
            refine heldMono (S' := (fun W => ((∀ j, W.cell? ⟨b5, j, none⟩ = ([.slice A1 t1 q1, .int .i64 c1] : List Value)[j]?) ∧ (convert 35 9 (.slice A m c)).run Tryz.prog W = .ok (.string ⟨b.toArray⟩) W) ∧ (convert 35 9 v5).run Tryz.prog W = .ok (.string ⟨P.toArray⟩) W)) (fun _ h => h.1) _ _ _ _ ?_
            have hT23 : (fun W => ((∀ j, W.cell? ⟨b5, j, none⟩ = ([.slice A1 t1 q1, .int .i64 c1] : List Value)[j]?) ∧ (convert 35 9 (.slice A m c)).run Tryz.prog W = .ok (.string ⟨b.toArray⟩) W) ∧ (convert 35 9 v5).run Tryz.prog W = .ok (.string ⟨P.toArray⟩) W) _ := ⟨⟨HO.out.cells 0 rfl, run_string_bs (H.out.step HO.out.below)⟩, run_string_bs HO5.out⟩
            try simp only [Act.put, qa, qb, qc, qd, qe, qf]
            refine tk (i := 22) (v := _) rfl (by assumption) ?_
            try simp only [Act.put, qa, qb, qc, qd, qe, qf]
            refine tk (i := 25) (v := _) rfl (by assumption) ?_
            try simp only [Act.put, qa, qb, qc, qd, qe, qf]
            refine tk (i := 26) (v := _) rfl (by assumption) ?_
            try simp only [Act.put, qa, qb, qc, qd, qe, qf]
            refine wpAnyH_done (by kernel_rfl) ?_ _
            go_wp2_with fail
            go_ret
            exact ⟨ret_i64e (by rw [hdrOf_ref, HE.out]; dsimp only; rw [if_neg (fun h => by have := HM.out; exact hne.out (HP.out.symm.trans h.2.2.2.2))]; rfl), HO.out.below⟩
          · have heq : Hid (P = b) := hide (by simpa using hbo)
            refine wp_region_held_drew (S := fun W => (∀ j, W.cell? ⟨b5, j, none⟩ = ([.slice A1 t1 q1, .int .i64 c1] : List Value)[j]?) ∧ (convert 35 9 (.slice A m c)).run Tryz.prog W = .ok (.string ⟨b.toArray⟩) W) (by kernel_rfl) (⟨HO.out.drew.cells 0 rfl, run_string_bs (H.out.step HO.out.drew.below)⟩) (fun hS0 => ?_)
            replace HO := hide HO.out.drew
            refine tk (i := 0) (v := _) rfl (by assumption) ?_
            try simp only [Act.put, qa, qb, qc, qd, qe, qf]
            refine tk (i := 1) (v := _) rfl (by assumption) ?_
            try simp only [Act.put, qa, qb, qc, qd, qe, qf]
            refine tk (i := 2) (v := _) rfl (by assumption) ?_
            try simp only [Act.put, qa, qb, qc, qd, qe, qf]
            refine tk (i := 3) (v := _) rfl (by assumption) ?_
            try simp only [Act.put, qa, qb, qc, qd, qe, qf]
            refine tk (i := 4) (v := _) rfl (by assumption) ?_
            try simp only [Act.put, qa, qb, qc, qd, qe, qf]
            refine tk (i := 5) (v := _) rfl (by assumption) ?_
            try simp only [Act.put, qa, qb, qc, qd, qe, qf]
            refine tk (i := 6) (v := _) rfl (by assumption) ?_
            try simp only [Act.put, qa, qb, qc, qd, qe, qf]
            refine tk (i := 7) (v := _) rfl (by assumption) ?_
            try simp only [Act.put, qa, qb, qc, qd, qe, qf]
            refine tk (i := 8) (v := _) rfl (by assumption) ?_
            try simp only [Act.put, qa, qb, qc, qd, qe, qf]
            refine tk (i := 9) (v := _) rfl (by assumption) ?_
            try simp only [Act.put, qa, qb, qc, qd, qe, qf]
            refine tk (i := 10) (v := _) rfl (by assumption) ?_
            try simp only [Act.put, qa, qb, qc, qd, qe, qf]
            refine tk (i := 11) (v := _) rfl (by assumption) ?_
            try simp only [Act.put, qa, qb, qc, qd, qe, qf]
            refine tk (i := 12) (v := _) rfl (by assumption) ?_
            try simp only [Act.put, qa, qb, qc, qd, qe, qf]
            refine tk (i := 13) (v := _) rfl (by assumption) ?_
            try simp only [Act.put, qa, qb, qc, qd, qe, qf]
            refine tk (i := 14) (v := _) rfl (by assumption) ?_
            try simp only [Act.put, qa, qb, qc, qd, qe, qf]
            refine tk (i := 15) (v := _) rfl (by assumption) ?_
            try simp only [Act.put, qa, qb, qc, qd, qe, qf]
            refine tk (i := 16) (v := _) rfl (by assumption) ?_
            try simp only [Act.put, qa, qb, qc, qd, qe, qf]
            refine tk (i := 17) (v := _) rfl (by assumption) ?_
            try simp only [Act.put, qa, qb, qc, qd, qe, qf]
            refine tk (i := 18) (v := _) rfl (by assumption) ?_
            try simp only [Act.put, qa, qb, qc, qd, qe, qf]
            refine tk (i := 19) (v := _) rfl (by assumption) ?_
            try simp only [Act.put, qa, qb, qc, qd, qe, qf]
            refine tk (i := 20) (v := _) rfl (by assumption) ?_
            try simp only [Act.put, qa, qb, qc, qd, qe, qf]
            refine tk (i := 23) (v := _) rfl (by assumption) ?_
            try simp only [Act.put, qa, qb, qc, qd, qe, qf]
            refine tk (i := 24) (v := _) rfl (by assumption) ?_
            try simp only [Act.put, qa, qb, qc, qd, qe, qf]
            refine wpAnyH_ready (rs := [21]) (by kernel_rfl) (by simp) ?_
            refine AllReadyH.cons rfl (fun K hK => ?_) AllReadyH.nil
            go_simp
            refine (HBY.out _).mono ?_
            rintro e w5 ⟨v5, rfl, ho5, hb5⟩
            replace HO := hide (HO.out.step hb5)
            have HO5 := hide ho5.bs
            clear ho5 hb5
            refine hK.out _ _ (⟨HO.out.cells 0 rfl, run_string_bs (H.out.step HO.out.below)⟩) (fun hS23 => ?_)
            clear hK K
            refine heldMono (S' := (fun W => ((∀ j, W.cell? ⟨b5, j, none⟩ = ([.slice A1 t1 q1, .int .i64 c1] : List Value)[j]?) ∧ (convert 35 9 (.slice A m c)).run Tryz.prog W = .ok (.string ⟨b.toArray⟩) W) ∧ (convert 35 9 v5).run Tryz.prog W = .ok (.string ⟨P.toArray⟩) W)) (fun _ h => h.1) _ _ _ _ ?_
            have hT23 : (fun W => ((∀ j, W.cell? ⟨b5, j, none⟩ = ([.slice A1 t1 q1, .int .i64 c1] : List Value)[j]?) ∧ (convert 35 9 (.slice A m c)).run Tryz.prog W = .ok (.string ⟨b.toArray⟩) W) ∧ (convert 35 9 v5).run Tryz.prog W = .ok (.string ⟨P.toArray⟩) W) _ := ⟨⟨HO.out.cells 0 rfl, run_string_bs (H.out.step HO.out.below)⟩, run_string_bs HO5.out⟩
            try simp only [Act.put, qa, qb, qc, qd, qe, qf]
            refine tk (i := 22) (v := _) rfl (by assumption) ?_
            try simp only [Act.put, qa, qb, qc, qd, qe, qf]
            refine tk (i := 25) (v := _) rfl (by assumption) ?_
            try simp only [Act.put, qa, qb, qc, qd, qe, qf]
            refine tk (i := 26) (v := _) rfl (by assumption) ?_
            try simp only [Act.put, qa, qb, qc, qd, qe, qf]
            refine wpAnyH_done (by kernel_rfl) ?_ _
            go_wp2_with fail
            go_ret
            exact ⟨ret_i64e (by rw [hdrOf_ref, HE.out]; dsimp only; rw [if_pos ⟨HQ0.out, by have := HM.out; have := HQ1.out; omega, by have := HM.out; have := HQ2.out; omega, by have := HM.out; have := HQ3.out; omega, HP.out.trans heq.out⟩]; exact HM.out.symm), HO.out.below⟩
end Go.Proofs.YtpadgkkeihhneaaGreat
