/- The reference of the journal: numbers and pages. -/
import Derived.Test.YtpadgkkeihhneaaGreatA01
import Derived.Test.YtpadgkkeihhneaaGreatA20
import Derived.Test.YtpadgkkeihhneaaGreatA21
namespace Go.Proofs.YtpadgkkeihhneaaGreat
set_option maxRecDepth 100000
set_option linter.unusedSimpArgs false
set_option linter.unusedVariables false
open Go.ChangeShapes Go.WideShapes Go.ChangeAt Go.RowKit
set_option linter.unusedVariables false

theorem below_al (w : World) (o : Obj) : Below w.heap.size w (w.alloc o) := (Below.refl _ _).alloc (Nat.le_refl _) _
set_option maxHeartbeats 1000000 in
theorem rpages_c (n : Nat) (hn : n ≤ 1000000000) (w : World) : Calls Tryz.prog 41 #[.int .i64 n] w fun e w' => e = .returned (.int .i64 (pagesN n)) ∧ w = w' := by
  obtain ⟨z, hz⟩ : ∃ z : Int, z = (n : Int) := ⟨_, rfl⟩
  have h0 : 0 ≤ z := by omega
  have h1 : z ≤ 1000000000 := by omega
  have HZ := hide hz
  rw [← hz]
  clear hz hn
  by_cases h2 : z < 1
  · go_enter Tryz.func41, Tryz.ntmps41
    go_wp2_with fail
    go_ret
    refine ⟨ret_i64e ?_, rfl⟩
    have := HZ.out
    unfold pagesN
    omega
  · have h3 : 1 ≤ z := by omega
    go_enter Tryz.func41, Tryz.ntmps41
    go_wp2_with fail
    go_ret
    refine ⟨ret_i64e ?_, rfl⟩
    have := HZ.out
    unfold pagesN
    omega
set_option maxHeartbeats 1000000 in
theorem rhalf_c (F : List Nat) (v : Value) (D : DS) (w : World) (h : Rf w F v D) (hs : D.Sz) : Calls Tryz.prog 50 #[v] w (Gives w (.int .i64 (half D))) := by
  obtain ⟨A, n, c, B, m, b, vs, xs, rfl, hk⟩ := h.form
  have hn : D.pages.length = n := by have := hk.dur.2; rcases this with ⟨e, h0⟩ | ⟨g, cap, cur, e, _⟩ <;> (injection e with e1 e2 e3; omega)
  have hlo := hs.lo
  have hhi := hs.hi
  unfold half rv
  rw [hn] at hlo hhi ⊢
  generalize D.fuse = fz
  generalize D.failed = fl
  clear h hk hn hs
  go_enter Tryz.func50, Tryz.ntmps50
  go_wp2_with fail
  go_ret
  refine ⟨ret_i64e ?_, below_al _ _⟩
  omega
set_option maxHeartbeats 1000000 in
theorem rfirst_c (F : List Nat) (v : Value) (D : DS) (t : Nat) (ht : t ≤ 1099511629000) (w : World) (h : Rf w F v D) (hs : D.Sz) : Calls Tryz.prog 52 #[v, .int .i64 t] w (Gives w (.int .i64 (first D t))) := by
  have HH := hide (fun (X : World) (k : Below w.heap.size w X) => rhalf_c F v D X (h.step k) hs)
  have hhi : half D ≤ 1000000 := by have := hs.hi; unfold half; omega
  obtain ⟨A, n, c, B, m, b, vs, xs, rfl, hk⟩ := h.form
  unfold first
  unfold rv at HH ⊢
  generalize D.fuse = fz at *
  generalize D.failed = fl at *
  clear h hk hs
  generalize half D = hf at *
  obtain ⟨r, hr⟩ : ∃ r, t % 2 = r := ⟨_, rfl⟩
  have hr2 : r < 2 := by omega
  have HR := hide hr
  rw [hr]
  clear hr
  go_enter Tryz.func52, Tryz.ntmps52
  go_wp2_with fail
  refine (HH.out _ (below_al _ _)).mono ?_
  rintro e w1 ⟨rfl, hb⟩
  have HB := hide ((below_al w (.cells #[.slice A n c, .slice B m b, .int .i64 fz, .bool fl] 32)).trans (hb.mono (by simp)))
  clear hb
  go_wp2_with fail
  go_ret
  refine ⟨ret_i64e ?_, HB.out⟩
  have e : (t : Int) % 2 = r := by have := HR.out; omega
  rw [e]
  rcases (show r = 0 ∨ r = 1 by omega) with rfl | rfl
  · show wrap64 (2 + wrap64 (0 * (hf : Int))) = _
    rw [Int.zero_mul]
    unfold wrap64; omega
  · show wrap64 (2 + wrap64 (1 * (hf : Int))) = _
    rw [Int.one_mul]
    unfold wrap64; omega
set_option maxHeartbeats 1000000 in
theorem rpage_c (v : Value) (l : List UInt8) (hl : l.length ≤ 122) (w : World) (h : Bs w v l) : Calls Tryz.prog 75 #[v] w (Fresh w (pageOf l)) := by
  have HS := hide (refSeal_c v l w h (by omega))
  have HL := hide hl
  clear h hl
  go_enter Tryz.func75, Tryz.ntmps75
  go_wp2_with fail
  refine HS.out.mono ?_
  rintro e w1 ⟨v1, rfl, ho, hb⟩
  obtain ⟨A, m, c, rfl, hm, hmc, hcm⟩ := ho.formN
  have hlen : m = l.length + 4 := by rw [hm.out, seal_len]
  have HM := hide hlen
  have HO := hide ho
  have HB := hide hb
  have m1 : m ≤ 126 := by have := HL.out; omega
  have HA := hide (run_append_zeros w.heap.size 35 ho (fun e => by have := seal_len l; rw [e] at this; simp at this) (128 - m) (by omega) (by rw [seal_len]; have := HL.out; omega) hb.size)
  have hc : ((128 - m : Nat) : Int) = 128 - (m : Int) := by omega
  rw [hc] at HA
  obtain ⟨v2, w2, hr, ho2, hg2, hw2⟩ := HA.out
  have HR := hide hr
  clear ho hb hm hlen HA hc hr
  go_wp2_with (at_builtin; refine wpList_append_z rfl _ _ rfl rfl rfl HR.out ?_)
  have hp : seal_ l ++ List.replicate (128 - m) 0 = pageOf l := by unfold pageOf; rw [seal_len, HM.out]
  rw [hp] at ho2
  go_ret
  exact ⟨_, rfl, ho2, below_append HB.out HO.out hg2 HB.out.size (Nat.le_refl _)⟩
set_option maxHeartbeats 1000000 in
theorem rheader_c (t : Nat) (ht : t ≤ 1099511629000) (w : World) : Calls Tryz.prog 88 #[.int .i64 t] w (Fresh w (hdrPage t)) := by
  have HN := hide (refNumber_c (.slice none 0 0) [] t (by omega) w (Bs.nil w) (by simp))
  have HL : Hid ((enc t).length ≤ 122) := hide (by have := enc_le t 6 (by omega); omega)
  go_enter Tryz.func88, Tryz.ntmps88
  go_wp2_with fail
  refine HN.out.mono ?_
  rintro e w1 ⟨v1, rfl, ho, hb⟩
  have HB := hide hb
  have HP := hide (rpage_c v1 (enc t) HL.out w1 (by simpa using ho.bs))
  clear ho hb HN
  go_wp2_with fail
  refine HP.out.mono ?_
  rintro e w2 ⟨v2, rfl, ho, hb⟩
  have HO := hide (ho.mono HB.out.size)
  have HB2 := hide (HB.out.trans (hb.mono HB.out.size))
  clear ho hb HP
  go_wp2_with fail
  go_ret
  exact ⟨_, rfl, HO.out, HB2.out⟩
end Go.Proofs.YtpadgkkeihhneaaGreat
