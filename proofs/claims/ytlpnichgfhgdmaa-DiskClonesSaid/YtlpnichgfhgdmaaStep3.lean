/- The law's step, same and run. -/
import Derived.Test.YtlpnichgfhgdmaaStep2
namespace Go.Proofs.Ytlpnichgfhgdmaa
open Go.ChangeShapes Go.WideShapes Go.ChangeAt Go.RowKit
set_option linter.unusedVariables false
set_option linter.unusedSimpArgs false

theorem step_c (d : Nat) (F : List Nat) (v : Value) (D : DS) (x : OpV) (w : World) (h : Disk w d F D) (hr : Rf w F v D) (hx : x.Ok w) (hpl : D.pend.length ≤ 100000) (hpg : D.pages.length ≤ 100000) (hxF : x.sl ≠ [] → ∀ j, x.sv.ownBlock = some j → j ∉ F) :
    Calls Try.prog 28 #[.pointer (some ⟨d, 0, none⟩), v, x.val] w (StepR w F (dStep D x)) := by
  by_cases h0 : x.kind = 0
  · exact step_write d F v D x w h0 h hr hx hpl hpg
  by_cases h1 : x.kind = 1
  · exact step_read d F v D x w h1 h hr hx hpl hpg
  by_cases h2 : x.kind = 2
  · exact step_sync d F v D x w h2 h hr hx hpl hpg
  by_cases h3 : x.kind = 3
  · exact step_fail d F v D x w h3 h hr hx hpl hpg hxF
  by_cases h4 : x.kind = 4
  · exact step_crash d F v D x w h4 h hr hx hpl hpg hxF
  by_cases h5 : x.kind = 5
  · exact step_clone d F v D x w h5 h hr hx hpl hpg
  exact step_else d F v D x w ⟨h0, h1, h2, h3, h4, h5⟩ h hr hx hpl hpg

/-- A block that holds a disk of the reference is none of those that a disk of the reference takes up. -/
theorem row_away {w : World} {t : TypeId} {size n : Nat} {v : Value} {cs : List Value} {g : Nat} {cs2 : Array Value} (h : Row w t size v n cs) (hb : Blk w g 53 cs2) (ht : t ≠ 53) : ∀ j, v.ownBlock = some j → j ≠ g := by
  intro j hj e
  subst e
  rcases h.2 with ⟨rfl, _⟩ | ⟨g, cap, cur, rfl, _, hg, _⟩
  · cases hj
  · have e : g = j := by injection hj
    subst e
    unfold Blk at hb
    rw [hb] at hg
    injection hg with hg
    injection hg with _ e2
    exact ht e2.symm
theorem bs_away {w : World} {v : Value} {l : List UInt8} {g : Nat} {A : Option Addr} {n c : Nat} {B : Option Addr} {m b : Nat} {z : Int} {fl : Bool} (h : Bs w v l) (hl : l.length = 128) (hb : Blk w g 53 #[.slice A n c, .slice B m b, .int .i64 z, .bool fl]) : ∀ j, v.ownBlock = some j → j ≠ g := by
  intro j hj e
  subst e
  obtain ⟨A', c', rfl, _, _, h3⟩ := h
  obtain ⟨g, o, rfl, hg, hc⟩ := h3 (by omega)
  have e : g = j := by injection hj
  subst e
  have h0 := hc 0 (by omega)
  rw [Nat.add_zero, hb.cell] at h0
  match o, h0 with
  | 0, h0 => simp [bv] at h0
  | 1, h0 => simp [bv] at h0
  | 2, h0 => simp [bv] at h0
  | 3, h0 => simp [bv] at h0
  | k + 4, h0 => simp at h0
theorem Apart.cons {w : World} {F : List Nat} {v : Value} {g : Nat} (h : Apart w F v) (hg : ∀ j, v.ownBlock = some j → j ≠ g) : Apart w (g :: F) v := fun j hj => ⟨(h j hj).1, fun hm => by
  rcases List.mem_cons.1 hm with e | e
  · exact hg j hj e
  · exact (h j hj).2 e⟩
theorem Rk.away {w : World} {F : List Nat} {D : DS} {dv pv : Value} {vs : List Value} {xs : List (Nat × Value)} {g : Nat} {A : Option Addr} {n c : Nat} {B : Option Addr} {m b : Nat} {z : Int} {fl : Bool} (h : Rk w F D dv pv vs xs) (hb : Blk w g 53 #[.slice A n c, .slice B m b, .int .i64 z, .bool fl]) : Rk w (g :: F) D dv pv vs xs := by
  refine ⟨h.dur, h.pend, ⟨h.pgs.len, fun i v p h1 h2 => ?_⟩, ⟨h.pds.len, fun i x y h1 h2 => ?_⟩, h.dA.cons (row_away h.dur hb (by decide)), h.pA.cons (row_away h.pend hb (by decide)), h.ok⟩
  · obtain ⟨q1, q2⟩ := h.pgs.at_ i v p h1 h2
    exact ⟨q1, q2.cons (bs_away q1 (h.ok.pages p (List.mem_of_getElem? h2)) hb)⟩
  · obtain ⟨q0, q1, q2⟩ := h.pds.at_ i x y h1 h2
    exact ⟨q0, q1, q2.cons (bs_away q1 (h.ok.pend y (List.mem_of_getElem? h2)).2 hb)⟩

set_option maxRecDepth 100000 in
set_option maxHeartbeats 4000000 in
theorem same_c (d : Nat) (F : List Nat) (v : Value) (D : DS) (w : World) (h : Disk w d F D) (hr : Rf w F v D) (hpl : D.pend.length ≤ 100000) (hpg : D.pages.length ≤ 100000) :
    Calls Try.prog 27 #[.pointer (some ⟨d, 0, none⟩), v] w fun e w' => e = .returned (.bool true) ∧ Below w.heap.size w w' := by
  obtain ⟨A, n, c, B, m, b, vs, xs, rfl, hk⟩ := hr.form
  have hnm : D.pend.length = m := by have := hk.pend.2; rcases this with ⟨e, h0⟩ | ⟨g, cap, cur, e, _⟩ <;> (injection e with e1 e2 e3; omega)
  have hnn : D.pages.length = n := by have := hk.dur.2; rcases this with ⟨e, h0⟩ | ⟨g, cap, cur, e, _⟩ <;> (injection e with e1 e2 e3; omega)
  have HPA := hide (fun (X : World) (k : Below w.heap.size w X) => pages_c d F D X (h.step k))
  have HPE := hide (fun (X : World) (k : Below w.heap.size w X) => pending_c d F D X (h.step k))
  have HFA := hide (fun (X : World) (k : Below w.heap.size w X) => failed_c d F D X (h.step k))
  have HCL := hide (fun (X : World) (k : Below w.heap.size w X) (hf : D.failed = false) => contents_l d F D X (h.step k) hf (by omega))
  have HCR := hide (fun (X : World) (k : Below w.heap.size w X) => contents_r F (rv (.slice A n c) (.slice B m b) D) D X (hr.step k) (by omega) (by omega))
  rw [hnn] at HPA
  rw [hnm] at HPE
  unfold rv at HCR ⊢
  generalize dContents D = cl at *
  generalize hz : D.fuse = z at *
  generalize hfl : D.failed = fl at *
  clear h hr hk hnm hnn hpl hpg hz hfl
  have hbx : Blk (w.alloc (.cells #[.slice A n c, .slice B m b, .int .i64 z, .bool fl] 53)) w.heap.size 53 #[.slice A n c, .slice B m b, .int .i64 z, .bool fl] := Blk.new _ _ _
  obtain ⟨a0, a1, a2, a3, _⟩ := blk4 hbx
  have HB := hide hbx
  have HBW : Hid (Below w.heap.size w (w.alloc (.cells #[.slice A n c, .slice B m b, .int .i64 z, .bool fl] 53))) := hide (below_first w _)
  clear hbx
  cases fl with
  | true =>
    go_enter Try.func27, Try.ntmps27
    go_wp2_with fail
    refine wp_region_held_drew (S := fun w' => w'.cell? ⟨w.heap.size, 0, none⟩ = some (.slice A n c) ∧ w'.cell? ⟨w.heap.size, 1, none⟩ = some (.slice B m b) ∧ w'.cell? ⟨w.heap.size, 2, none⟩ = some (.int .i64 z) ∧ w'.cell? ⟨w.heap.size, 3, none⟩ = some (.bool true)) (by kernel_rfl) (four_of HB.out.drew) (fun hS0 => ?_)
    refine wpAnyH_take (i := 0) (v := ?vp0) rfl (by kernel_rfl) (by kernel_rfl) (by kernel_rfl) (fun _ _ _ h => h) (Or.inl ⟨by rfl, ?hyp0⟩) (by assumption) ?restp0
    case hyp0 => (intro w hSw; (try dsimp only at hSw); go_simp; first | done | (with_reducible rfl))
    try simp only [Act.put, List.getElem_toArray, List.getElem_cons_zero, List.getElem_cons_succ, List.setIfInBounds_toArray, List.set_cons_zero, List.set_cons_succ]
    refine wpAnyH_take (i := 2) (v := ?vp1) rfl (by kernel_rfl) (by kernel_rfl) (by kernel_rfl) (fun _ _ _ h => h) (Or.inl ⟨by rfl, ?hyp1⟩) (by assumption) ?restp1
    case hyp1 => (intro w hSw; (try dsimp only at hSw); go_simp; first | done | (with_reducible rfl))
    try simp only [Act.put, List.getElem_toArray, List.getElem_cons_zero, List.getElem_cons_succ, List.setIfInBounds_toArray, List.set_cons_zero, List.set_cons_succ]
    refine wpAnyH_take (i := 3) (v := ?vp2) rfl (by kernel_rfl) (by kernel_rfl) (by kernel_rfl) (fun _ _ _ h => h) (Or.inl ⟨by rfl, ?hyp2⟩) (by assumption) ?restp2
    case hyp2 => (intro w hSw; (try dsimp only at hSw); go_simp; first | done | (with_reducible rfl))
    try simp only [Act.put, List.getElem_toArray, List.getElem_cons_zero, List.getElem_cons_succ, List.setIfInBounds_toArray, List.set_cons_zero, List.set_cons_succ]
    refine wpAnyH_take (i := 4) (v := ?vp3) rfl (by kernel_rfl) (by kernel_rfl) (by kernel_rfl) (fun _ _ _ h => h) (Or.inl ⟨by rfl, ?hyp3⟩) (by assumption) ?restp3
    case hyp3 => (intro w hSw; (try dsimp only at hSw); go_simp; first | done | (with_reducible rfl))
    try simp only [Act.put, List.getElem_toArray, List.getElem_cons_zero, List.getElem_cons_succ, List.setIfInBounds_toArray, List.set_cons_zero, List.set_cons_succ]
    refine wpAnyH_ready (rs := [1]) (by kernel_rfl) (by simp) ?_
    refine AllReadyH.cons rfl (fun K hK => ?_) AllReadyH.nil
    go_simp
    refine (HPA.out _ HBW.out.drew).mono ?_
    rintro e W1 ⟨rfl, rfl⟩
    refine hK.out _ _ (four_of HB.out.drew) (fun hS4 => ?_)
    clear hK K
    try simp only [Act.put, List.getElem_toArray, List.getElem_cons_zero, List.getElem_cons_succ, List.setIfInBounds_toArray, List.set_cons_zero, List.set_cons_succ]
    refine wpAnyH_take (i := 5) (v := ?vp5) rfl (by kernel_rfl) (by kernel_rfl) (by kernel_rfl) (fun _ _ _ h => h) (Or.inl ⟨by rfl, ?hyp5⟩) (by assumption) ?restp5
    case hyp5 => (intro w hSw; (try dsimp only at hSw); go_simp; first | done | (with_reducible rfl))
    try simp only [Act.put, List.getElem_toArray, List.getElem_cons_zero, List.getElem_cons_succ, List.setIfInBounds_toArray, List.set_cons_zero, List.set_cons_succ]
    refine wpAnyH_take (i := 6) (v := ?vp6) rfl (by kernel_rfl) (by kernel_rfl) (by kernel_rfl) (fun _ _ _ h => h) (Or.inl ⟨by rfl, ?hyp6⟩) (by assumption) ?restp6
    case hyp6 => (intro w hSw; (try dsimp only at hSw); go_simp; first | done | (with_reducible rfl))
    try simp only [Act.put, List.getElem_toArray, List.getElem_cons_zero, List.getElem_cons_succ, List.setIfInBounds_toArray, List.set_cons_zero, List.set_cons_succ]
    refine wpAnyH_take (i := 7) (v := ?vp7) rfl (by kernel_rfl) (by kernel_rfl) (by kernel_rfl) (fun _ _ _ h => h) (Or.inl ⟨by rfl, ?hyp7⟩) (by assumption) ?restp7
    case hyp7 => (intro w hSw; (try dsimp only at hSw); go_simp; first | done | (with_reducible rfl))
    try simp only [Act.put, List.getElem_toArray, List.getElem_cons_zero, List.getElem_cons_succ, List.setIfInBounds_toArray, List.set_cons_zero, List.set_cons_succ]
    refine wpAnyH_take (i := 9) (v := ?vp8) rfl (by kernel_rfl) (by kernel_rfl) (by kernel_rfl) (fun _ _ _ h => h) (Or.inl ⟨by rfl, ?hyp8⟩) (by assumption) ?restp8
    case hyp8 => (intro w hSw; (try dsimp only at hSw); go_simp; first | done | (with_reducible rfl))
    try simp only [Act.put, List.getElem_toArray, List.getElem_cons_zero, List.getElem_cons_succ, List.setIfInBounds_toArray, List.set_cons_zero, List.set_cons_succ]
    refine wpAnyH_take (i := 10) (v := ?vp9) rfl (by kernel_rfl) (by kernel_rfl) (by kernel_rfl) (fun _ _ _ h => h) (Or.inl ⟨by rfl, ?hyp9⟩) (by assumption) ?restp9
    case hyp9 => (intro w hSw; (try dsimp only at hSw); go_simp; first | done | (with_reducible rfl))
    try simp only [Act.put, List.getElem_toArray, List.getElem_cons_zero, List.getElem_cons_succ, List.setIfInBounds_toArray, List.set_cons_zero, List.set_cons_succ]
    refine wpAnyH_take (i := 11) (v := ?vp10) rfl (by kernel_rfl) (by kernel_rfl) (by kernel_rfl) (fun _ _ _ h => h) (Or.inl ⟨by rfl, ?hyp10⟩) (by assumption) ?restp10
    case hyp10 => (intro w hSw; (try dsimp only at hSw); go_simp; first | done | (with_reducible rfl))
    try simp only [Act.put, List.getElem_toArray, List.getElem_cons_zero, List.getElem_cons_succ, List.setIfInBounds_toArray, List.set_cons_zero, List.set_cons_succ]
    refine wpAnyH_ready (rs := [8]) (by kernel_rfl) (by simp) ?_
    refine AllReadyH.cons rfl (fun K hK => ?_) AllReadyH.nil
    go_simp
    refine (HPE.out _ HBW.out.drew).mono ?_
    rintro e W1 ⟨rfl, rfl⟩
    refine hK.out _ _ (four_of HB.out.drew) (fun hS11 => ?_)
    clear hK K
    try simp only [Act.put, List.getElem_toArray, List.getElem_cons_zero, List.getElem_cons_succ, List.setIfInBounds_toArray, List.set_cons_zero, List.set_cons_succ]
    refine wpAnyH_take (i := 12) (v := ?vp12) rfl (by kernel_rfl) (by kernel_rfl) (by kernel_rfl) (fun _ _ _ h => h) (Or.inl ⟨by rfl, ?hyp12⟩) (by assumption) ?restp12
    case hyp12 => (intro w hSw; (try dsimp only at hSw); go_simp; first | done | (with_reducible rfl))
    try simp only [Act.put, List.getElem_toArray, List.getElem_cons_zero, List.getElem_cons_succ, List.setIfInBounds_toArray, List.set_cons_zero, List.set_cons_succ]
    refine wpAnyH_take (i := 13) (v := ?vp13) rfl (by kernel_rfl) (by kernel_rfl) (by kernel_rfl) (fun _ _ _ h => h) (Or.inl ⟨by rfl, ?hyp13⟩) (by assumption) ?restp13
    case hyp13 => (intro w hSw; (try dsimp only at hSw); go_simp; first | done | (with_reducible rfl))
    try simp only [Act.put, List.getElem_toArray, List.getElem_cons_zero, List.getElem_cons_succ, List.setIfInBounds_toArray, List.set_cons_zero, List.set_cons_succ]
    refine wpAnyH_take (i := 14) (v := ?vp14) rfl (by kernel_rfl) (by kernel_rfl) (by kernel_rfl) (fun _ _ _ h => h) (Or.inl ⟨by rfl, ?hyp14⟩) (by assumption) ?restp14
    case hyp14 => (intro w hSw; (try dsimp only at hSw); go_simp; first | done | (with_reducible rfl))
    try simp only [Act.put, List.getElem_toArray, List.getElem_cons_zero, List.getElem_cons_succ, List.setIfInBounds_toArray, List.set_cons_zero, List.set_cons_succ]
    refine wpAnyH_take (i := 15) (v := ?vp15) rfl (by kernel_rfl) (by kernel_rfl) (by kernel_rfl) (fun _ _ _ h => h) (Or.inl ⟨by rfl, ?hyp15⟩) (by assumption) ?restp15
    case hyp15 => (intro w hSw; (try dsimp only at hSw); go_simp; first | done | (with_reducible rfl))
    try simp only [Act.put, List.getElem_toArray, List.getElem_cons_zero, List.getElem_cons_succ, List.setIfInBounds_toArray, List.set_cons_zero, List.set_cons_succ]
    refine wpAnyH_take (i := 17) (v := ?vp16) rfl (by kernel_rfl) (by kernel_rfl) (by kernel_rfl) (fun _ _ _ h => h) (Or.inl ⟨by rfl, ?hyp16⟩) (by assumption) ?restp16
    case hyp16 => (intro w hSw; (try dsimp only at hSw); go_simp; first | done | (with_reducible rfl))
    try simp only [Act.put, List.getElem_toArray, List.getElem_cons_zero, List.getElem_cons_succ, List.setIfInBounds_toArray, List.set_cons_zero, List.set_cons_succ]
    refine wpAnyH_take (i := 18) (v := ?vp17) rfl (by kernel_rfl) (by kernel_rfl) (by kernel_rfl) (fun _ _ _ h => h) (Or.inl ⟨by rfl, ?hyp17⟩) (by assumption) ?restp17
    case hyp17 => (intro w hSw; (try dsimp only at hSw); go_simp; first | done | (with_reducible rfl))
    try simp only [Act.put, List.getElem_toArray, List.getElem_cons_zero, List.getElem_cons_succ, List.setIfInBounds_toArray, List.set_cons_zero, List.set_cons_succ]
    refine wpAnyH_ready (rs := [16]) (by kernel_rfl) (by simp) ?_
    refine AllReadyH.cons rfl (fun K hK => ?_) AllReadyH.nil
    go_simp
    refine (HFA.out _ HBW.out.drew).mono ?_
    rintro e W1 ⟨rfl, rfl⟩
    refine hK.out _ _ (four_of HB.out.drew) (fun hS18 => ?_)
    clear hK K
    try simp only [Act.put, List.getElem_toArray, List.getElem_cons_zero, List.getElem_cons_succ, List.setIfInBounds_toArray, List.set_cons_zero, List.set_cons_succ]
    refine wpAnyH_take (i := 19) (v := ?vp19) rfl (by kernel_rfl) (by kernel_rfl) (by kernel_rfl) (fun _ _ _ h => h) (Or.inl ⟨by rfl, ?hyp19⟩) (by assumption) ?restp19
    case hyp19 => (intro w hSw; (try dsimp only at hSw); go_simp; first | done | (with_reducible rfl))
    try simp only [Act.put, List.getElem_toArray, List.getElem_cons_zero, List.getElem_cons_succ, List.setIfInBounds_toArray, List.set_cons_zero, List.set_cons_succ]
    refine wpAnyH_take (i := 20) (v := ?vp20) rfl (by kernel_rfl) (by kernel_rfl) (by kernel_rfl) (fun _ _ _ h => h) (Or.inl ⟨by rfl, ?hyp20⟩) (by assumption) ?restp20
    case hyp20 => (intro w hSw; (try dsimp only at hSw); go_simp; first | done | (with_reducible rfl))
    try simp only [Act.put, List.getElem_toArray, List.getElem_cons_zero, List.getElem_cons_succ, List.setIfInBounds_toArray, List.set_cons_zero, List.set_cons_succ]
    refine wpAnyH_done (by kernel_rfl) ?_ _
    go_wp2_with fail
    go_ret
    exact ⟨by first | rfl | simp, HBW.out.drew⟩
  | false =>
    go_enter Try.func27, Try.ntmps27
    go_wp2_with fail
    refine wp_region_held_drew (S := fun w' => w'.cell? ⟨w.heap.size, 0, none⟩ = some (.slice A n c) ∧ w'.cell? ⟨w.heap.size, 1, none⟩ = some (.slice B m b) ∧ w'.cell? ⟨w.heap.size, 2, none⟩ = some (.int .i64 z) ∧ w'.cell? ⟨w.heap.size, 3, none⟩ = some (.bool false)) (by kernel_rfl) (four_of HB.out.drew) (fun hS0 => ?_)
    refine wpAnyH_take (i := 0) (v := ?vq0) rfl (by kernel_rfl) (by kernel_rfl) (by kernel_rfl) (fun _ _ _ h => h) (Or.inl ⟨by rfl, ?hyq0⟩) (by assumption) ?restq0
    case hyq0 => (intro w hSw; (try dsimp only at hSw); go_simp; first | done | (with_reducible rfl))
    try simp only [Act.put, List.getElem_toArray, List.getElem_cons_zero, List.getElem_cons_succ, List.setIfInBounds_toArray, List.set_cons_zero, List.set_cons_succ]
    refine wpAnyH_take (i := 2) (v := ?vq1) rfl (by kernel_rfl) (by kernel_rfl) (by kernel_rfl) (fun _ _ _ h => h) (Or.inl ⟨by rfl, ?hyq1⟩) (by assumption) ?restq1
    case hyq1 => (intro w hSw; (try dsimp only at hSw); go_simp; first | done | (with_reducible rfl))
    try simp only [Act.put, List.getElem_toArray, List.getElem_cons_zero, List.getElem_cons_succ, List.setIfInBounds_toArray, List.set_cons_zero, List.set_cons_succ]
    refine wpAnyH_take (i := 3) (v := ?vq2) rfl (by kernel_rfl) (by kernel_rfl) (by kernel_rfl) (fun _ _ _ h => h) (Or.inl ⟨by rfl, ?hyq2⟩) (by assumption) ?restq2
    case hyq2 => (intro w hSw; (try dsimp only at hSw); go_simp; first | done | (with_reducible rfl))
    try simp only [Act.put, List.getElem_toArray, List.getElem_cons_zero, List.getElem_cons_succ, List.setIfInBounds_toArray, List.set_cons_zero, List.set_cons_succ]
    refine wpAnyH_take (i := 4) (v := ?vq3) rfl (by kernel_rfl) (by kernel_rfl) (by kernel_rfl) (fun _ _ _ h => h) (Or.inl ⟨by rfl, ?hyq3⟩) (by assumption) ?restq3
    case hyq3 => (intro w hSw; (try dsimp only at hSw); go_simp; first | done | (with_reducible rfl))
    try simp only [Act.put, List.getElem_toArray, List.getElem_cons_zero, List.getElem_cons_succ, List.setIfInBounds_toArray, List.set_cons_zero, List.set_cons_succ]
    refine wpAnyH_ready (rs := [1]) (by kernel_rfl) (by simp) ?_
    refine AllReadyH.cons rfl (fun K hK => ?_) AllReadyH.nil
    go_simp
    refine (HPA.out _ HBW.out.drew).mono ?_
    rintro e W1 ⟨rfl, rfl⟩
    refine hK.out _ _ (four_of HB.out.drew) (fun hS4 => ?_)
    clear hK K
    try simp only [Act.put, List.getElem_toArray, List.getElem_cons_zero, List.getElem_cons_succ, List.setIfInBounds_toArray, List.set_cons_zero, List.set_cons_succ]
    refine wpAnyH_take (i := 5) (v := ?vq5) rfl (by kernel_rfl) (by kernel_rfl) (by kernel_rfl) (fun _ _ _ h => h) (Or.inl ⟨by rfl, ?hyq5⟩) (by assumption) ?restq5
    case hyq5 => (intro w hSw; (try dsimp only at hSw); go_simp; first | done | (with_reducible rfl))
    try simp only [Act.put, List.getElem_toArray, List.getElem_cons_zero, List.getElem_cons_succ, List.setIfInBounds_toArray, List.set_cons_zero, List.set_cons_succ]
    refine wpAnyH_take (i := 6) (v := ?vq6) rfl (by kernel_rfl) (by kernel_rfl) (by kernel_rfl) (fun _ _ _ h => h) (Or.inl ⟨by rfl, ?hyq6⟩) (by assumption) ?restq6
    case hyq6 => (intro w hSw; (try dsimp only at hSw); go_simp; first | done | (with_reducible rfl))
    try simp only [Act.put, List.getElem_toArray, List.getElem_cons_zero, List.getElem_cons_succ, List.setIfInBounds_toArray, List.set_cons_zero, List.set_cons_succ]
    refine wpAnyH_take (i := 7) (v := ?vq7) rfl (by kernel_rfl) (by kernel_rfl) (by kernel_rfl) (fun _ _ _ h => h) (Or.inl ⟨by rfl, ?hyq7⟩) (by assumption) ?restq7
    case hyq7 => (intro w hSw; (try dsimp only at hSw); go_simp; first | done | (with_reducible rfl))
    try simp only [Act.put, List.getElem_toArray, List.getElem_cons_zero, List.getElem_cons_succ, List.setIfInBounds_toArray, List.set_cons_zero, List.set_cons_succ]
    refine wpAnyH_take (i := 9) (v := ?vq8) rfl (by kernel_rfl) (by kernel_rfl) (by kernel_rfl) (fun _ _ _ h => h) (Or.inl ⟨by rfl, ?hyq8⟩) (by assumption) ?restq8
    case hyq8 => (intro w hSw; (try dsimp only at hSw); go_simp; first | done | (with_reducible rfl))
    try simp only [Act.put, List.getElem_toArray, List.getElem_cons_zero, List.getElem_cons_succ, List.setIfInBounds_toArray, List.set_cons_zero, List.set_cons_succ]
    refine wpAnyH_take (i := 10) (v := ?vq9) rfl (by kernel_rfl) (by kernel_rfl) (by kernel_rfl) (fun _ _ _ h => h) (Or.inl ⟨by rfl, ?hyq9⟩) (by assumption) ?restq9
    case hyq9 => (intro w hSw; (try dsimp only at hSw); go_simp; first | done | (with_reducible rfl))
    try simp only [Act.put, List.getElem_toArray, List.getElem_cons_zero, List.getElem_cons_succ, List.setIfInBounds_toArray, List.set_cons_zero, List.set_cons_succ]
    refine wpAnyH_take (i := 11) (v := ?vq10) rfl (by kernel_rfl) (by kernel_rfl) (by kernel_rfl) (fun _ _ _ h => h) (Or.inl ⟨by rfl, ?hyq10⟩) (by assumption) ?restq10
    case hyq10 => (intro w hSw; (try dsimp only at hSw); go_simp; first | done | (with_reducible rfl))
    try simp only [Act.put, List.getElem_toArray, List.getElem_cons_zero, List.getElem_cons_succ, List.setIfInBounds_toArray, List.set_cons_zero, List.set_cons_succ]
    refine wpAnyH_ready (rs := [8]) (by kernel_rfl) (by simp) ?_
    refine AllReadyH.cons rfl (fun K hK => ?_) AllReadyH.nil
    go_simp
    refine (HPE.out _ HBW.out.drew).mono ?_
    rintro e W1 ⟨rfl, rfl⟩
    refine hK.out _ _ (four_of HB.out.drew) (fun hS11 => ?_)
    clear hK K
    try simp only [Act.put, List.getElem_toArray, List.getElem_cons_zero, List.getElem_cons_succ, List.setIfInBounds_toArray, List.set_cons_zero, List.set_cons_succ]
    refine wpAnyH_take (i := 12) (v := ?vq12) rfl (by kernel_rfl) (by kernel_rfl) (by kernel_rfl) (fun _ _ _ h => h) (Or.inl ⟨by rfl, ?hyq12⟩) (by assumption) ?restq12
    case hyq12 => (intro w hSw; (try dsimp only at hSw); go_simp; first | done | (with_reducible rfl))
    try simp only [Act.put, List.getElem_toArray, List.getElem_cons_zero, List.getElem_cons_succ, List.setIfInBounds_toArray, List.set_cons_zero, List.set_cons_succ]
    refine wpAnyH_take (i := 13) (v := ?vq13) rfl (by kernel_rfl) (by kernel_rfl) (by kernel_rfl) (fun _ _ _ h => h) (Or.inl ⟨by rfl, ?hyq13⟩) (by assumption) ?restq13
    case hyq13 => (intro w hSw; (try dsimp only at hSw); go_simp; first | done | (with_reducible rfl))
    try simp only [Act.put, List.getElem_toArray, List.getElem_cons_zero, List.getElem_cons_succ, List.setIfInBounds_toArray, List.set_cons_zero, List.set_cons_succ]
    refine wpAnyH_take (i := 14) (v := ?vq14) rfl (by kernel_rfl) (by kernel_rfl) (by kernel_rfl) (fun _ _ _ h => h) (Or.inl ⟨by rfl, ?hyq14⟩) (by assumption) ?restq14
    case hyq14 => (intro w hSw; (try dsimp only at hSw); go_simp; first | done | (with_reducible rfl))
    try simp only [Act.put, List.getElem_toArray, List.getElem_cons_zero, List.getElem_cons_succ, List.setIfInBounds_toArray, List.set_cons_zero, List.set_cons_succ]
    refine wpAnyH_take (i := 15) (v := ?vq15) rfl (by kernel_rfl) (by kernel_rfl) (by kernel_rfl) (fun _ _ _ h => h) (Or.inl ⟨by rfl, ?hyq15⟩) (by assumption) ?restq15
    case hyq15 => (intro w hSw; (try dsimp only at hSw); go_simp; first | done | (with_reducible rfl))
    try simp only [Act.put, List.getElem_toArray, List.getElem_cons_zero, List.getElem_cons_succ, List.setIfInBounds_toArray, List.set_cons_zero, List.set_cons_succ]
    refine wpAnyH_take (i := 17) (v := ?vq16) rfl (by kernel_rfl) (by kernel_rfl) (by kernel_rfl) (fun _ _ _ h => h) (Or.inl ⟨by rfl, ?hyq16⟩) (by assumption) ?restq16
    case hyq16 => (intro w hSw; (try dsimp only at hSw); go_simp; first | done | (with_reducible rfl))
    try simp only [Act.put, List.getElem_toArray, List.getElem_cons_zero, List.getElem_cons_succ, List.setIfInBounds_toArray, List.set_cons_zero, List.set_cons_succ]
    refine wpAnyH_take (i := 18) (v := ?vq17) rfl (by kernel_rfl) (by kernel_rfl) (by kernel_rfl) (fun _ _ _ h => h) (Or.inl ⟨by rfl, ?hyq17⟩) (by assumption) ?restq17
    case hyq17 => (intro w hSw; (try dsimp only at hSw); go_simp; first | done | (with_reducible rfl))
    try simp only [Act.put, List.getElem_toArray, List.getElem_cons_zero, List.getElem_cons_succ, List.setIfInBounds_toArray, List.set_cons_zero, List.set_cons_succ]
    refine wpAnyH_ready (rs := [16]) (by kernel_rfl) (by simp) ?_
    refine AllReadyH.cons rfl (fun K hK => ?_) AllReadyH.nil
    go_simp
    refine (HFA.out _ HBW.out.drew).mono ?_
    rintro e W1 ⟨rfl, rfl⟩
    refine hK.out _ _ (four_of HB.out.drew) (fun hS18 => ?_)
    clear hK K
    try simp only [Act.put, List.getElem_toArray, List.getElem_cons_zero, List.getElem_cons_succ, List.setIfInBounds_toArray, List.set_cons_zero, List.set_cons_succ]
    refine wpAnyH_take (i := 19) (v := ?vq19) rfl (by kernel_rfl) (by kernel_rfl) (by kernel_rfl) (fun _ _ _ h => h) (Or.inl ⟨by rfl, ?hyq19⟩) (by assumption) ?restq19
    case hyq19 => (intro w hSw; (try dsimp only at hSw); go_simp; first | done | (with_reducible rfl))
    try simp only [Act.put, List.getElem_toArray, List.getElem_cons_zero, List.getElem_cons_succ, List.setIfInBounds_toArray, List.set_cons_zero, List.set_cons_succ]
    refine wpAnyH_take (i := 20) (v := ?vq20) rfl (by kernel_rfl) (by kernel_rfl) (by kernel_rfl) (fun _ _ _ h => h) (Or.inl ⟨by rfl, ?hyq20⟩) (by assumption) ?restq20
    case hyq20 => (intro w hSw; (try dsimp only at hSw); go_simp; first | done | (with_reducible rfl))
    try simp only [Act.put, List.getElem_toArray, List.getElem_cons_zero, List.getElem_cons_succ, List.setIfInBounds_toArray, List.set_cons_zero, List.set_cons_succ]
    refine wpAnyH_done (by kernel_rfl) ?_ _
    go_wp2_with fail
    refine wp_region_held_drew (S := fun w' => w'.cell? ⟨w.heap.size, 0, none⟩ = some (.slice A n c) ∧ w'.cell? ⟨w.heap.size, 1, none⟩ = some (.slice B m b) ∧ w'.cell? ⟨w.heap.size, 2, none⟩ = some (.int .i64 z) ∧ w'.cell? ⟨w.heap.size, 3, none⟩ = some (.bool false)) (by kernel_rfl) (four_of HB.out.drew.drew) (fun hS0 => ?_)
    refine wpAnyH_take (i := 0) (v := ?vr0) rfl (by kernel_rfl) (by kernel_rfl) (by kernel_rfl) (fun _ _ _ h => h) (Or.inl ⟨by rfl, ?hyr0⟩) (by assumption) ?restr0
    case hyr0 => (intro w hSw; (try dsimp only at hSw); go_simp; first | done | (with_reducible rfl))
    try simp only [Act.put, List.getElem_toArray, List.getElem_cons_zero, List.getElem_cons_succ, List.setIfInBounds_toArray, List.set_cons_zero, List.set_cons_succ]
    refine wpAnyH_take (i := 3) (v := ?vr1) rfl (by kernel_rfl) (by kernel_rfl) (by kernel_rfl) (fun _ _ _ h => h) (Or.inl ⟨by rfl, ?hyr1⟩) (by assumption) ?restr1
    case hyr1 => (intro w hSw; (try dsimp only at hSw); go_simp; first | done | (with_reducible rfl))
    try simp only [Act.put, List.getElem_toArray, List.getElem_cons_zero, List.getElem_cons_succ, List.setIfInBounds_toArray, List.set_cons_zero, List.set_cons_succ]
    refine wpAnyH_ready (rs := [1]) (by kernel_rfl) (by simp) ?_
    refine AllReadyH.cons rfl (fun K hK => ?_) AllReadyH.nil
    go_simp
    refine (HCL.out _ HBW.out.drew.drew trivial).mono ?_
    rintro e Wc ⟨v1, rfl, how1, hb1⟩
    have HV1 := hide how1.bs
    have HBC := hide (HBW.out.drew.drew.trans (hb1.mono HBW.out.drew.drew.size))
    have HX1 := hide (HB.out.drew.drew.step hb1)
    clear how1 hb1
    refine hK.out _ _ (four_of HX1.out) (fun hS2 => ?_)
    clear hK K
    refine heldMono (S' := (fun w' => (w'.cell? ⟨w.heap.size, 0, none⟩ = some (.slice A n c) ∧ w'.cell? ⟨w.heap.size, 1, none⟩ = some (.slice B m b) ∧ w'.cell? ⟨w.heap.size, 2, none⟩ = some (.int .i64 z) ∧ w'.cell? ⟨w.heap.size, 3, none⟩ = some (.bool false)) ∧ (convert 28 9 v1).run Try.prog w' = .ok (.string ⟨cl.toArray⟩) w')) (fun _ h => h.1) _ _ _ _ ?_
    have hT2 : (fun w' => (w'.cell? ⟨w.heap.size, 0, none⟩ = some (.slice A n c) ∧ w'.cell? ⟨w.heap.size, 1, none⟩ = some (.slice B m b) ∧ w'.cell? ⟨w.heap.size, 2, none⟩ = some (.int .i64 z) ∧ w'.cell? ⟨w.heap.size, 3, none⟩ = some (.bool false)) ∧ (convert 28 9 v1).run Try.prog w' = .ok (.string ⟨cl.toArray⟩) w') _ := ⟨four_of HX1.out, run_string_bs HV1.out⟩
    try simp only [Act.put, List.getElem_toArray, List.getElem_cons_zero, List.getElem_cons_succ, List.setIfInBounds_toArray, List.set_cons_zero, List.set_cons_succ]
    refine wpAnyH_take (i := 2) (v := ?vr3) rfl (by kernel_rfl) (by kernel_rfl) (by kernel_rfl) (fun _ _ _ h => h) (Or.inl ⟨by rfl, ?hyr3⟩) (by assumption) ?restr3
    case hyr3 => (intro w hSw; (try dsimp only at hSw); go_simp; first | done | (with_reducible rfl))
    try simp only [Act.put, List.getElem_toArray, List.getElem_cons_zero, List.getElem_cons_succ, List.setIfInBounds_toArray, List.set_cons_zero, List.set_cons_succ]
    refine wpAnyH_ready (rs := [4]) (by kernel_rfl) (by simp) ?_
    refine AllReadyH.cons rfl (fun K hK => ?_) AllReadyH.nil
    go_simp
    refine (HCR.out _ HBC.out).mono ?_
    rintro e Wd ⟨v2, rfl, how2, hb2⟩
    have HV2 := hide how2.bs
    have HV3 := hide (HV1.out.step hb2)
    have HBD := hide (HBC.out.trans (hb2.mono HBC.out.size))
    have HX2 := hide (HX1.out.step hb2)
    clear how2 hb2
    refine hK.out _ _ (⟨four_of HX2.out, run_string_bs HV3.out⟩) (fun hS4 => ?_)
    clear hK K
    refine heldMono (S' := (fun w' => ((w'.cell? ⟨w.heap.size, 0, none⟩ = some (.slice A n c) ∧ w'.cell? ⟨w.heap.size, 1, none⟩ = some (.slice B m b) ∧ w'.cell? ⟨w.heap.size, 2, none⟩ = some (.int .i64 z) ∧ w'.cell? ⟨w.heap.size, 3, none⟩ = some (.bool false)) ∧ (convert 28 9 v1).run Try.prog w' = .ok (.string ⟨cl.toArray⟩) w') ∧ (convert 28 9 v2).run Try.prog w' = .ok (.string ⟨cl.toArray⟩) w')) (fun _ h => h.1) _ _ _ _ ?_
    have hT4 : (fun w' => ((w'.cell? ⟨w.heap.size, 0, none⟩ = some (.slice A n c) ∧ w'.cell? ⟨w.heap.size, 1, none⟩ = some (.slice B m b) ∧ w'.cell? ⟨w.heap.size, 2, none⟩ = some (.int .i64 z) ∧ w'.cell? ⟨w.heap.size, 3, none⟩ = some (.bool false)) ∧ (convert 28 9 v1).run Try.prog w' = .ok (.string ⟨cl.toArray⟩) w') ∧ (convert 28 9 v2).run Try.prog w' = .ok (.string ⟨cl.toArray⟩) w') _ := ⟨⟨four_of HX2.out, run_string_bs HV3.out⟩, run_string_bs HV2.out⟩
    try simp only [Act.put, List.getElem_toArray, List.getElem_cons_zero, List.getElem_cons_succ, List.setIfInBounds_toArray, List.set_cons_zero, List.set_cons_succ]
    refine wpAnyH_take (i := 5) (v := ?vr5) rfl (by kernel_rfl) (by kernel_rfl) (by kernel_rfl) (fun _ _ _ h => h) (Or.inl ⟨by rfl, ?hyr5⟩) (by assumption) ?restr5
    case hyr5 => (intro w hSw; (try dsimp only at hSw); go_simp; first | done | (with_reducible rfl))
    try simp only [Act.put, List.getElem_toArray, List.getElem_cons_zero, List.getElem_cons_succ, List.setIfInBounds_toArray, List.set_cons_zero, List.set_cons_succ]
    refine wpAnyH_take (i := 6) (v := ?vr6) rfl (by kernel_rfl) (by kernel_rfl) (by kernel_rfl) (fun _ _ _ h => h) (Or.inl ⟨by rfl, ?hyr6⟩) (by assumption) ?restr6
    case hyr6 => (intro w hSw; (try dsimp only at hSw); go_simp; first | done | (with_reducible rfl))
    try simp only [Act.put, List.getElem_toArray, List.getElem_cons_zero, List.getElem_cons_succ, List.setIfInBounds_toArray, List.set_cons_zero, List.set_cons_succ]
    refine wpAnyH_take (i := 7) (v := ?vr7) rfl (by kernel_rfl) (by kernel_rfl) (by kernel_rfl) (fun _ _ _ h => h) (Or.inl ⟨by rfl, ?hyr7⟩) (by assumption) ?restr7
    case hyr7 => (intro w hSw; (try dsimp only at hSw); go_simp; first | done | (with_reducible rfl))
    try simp only [Act.put, List.getElem_toArray, List.getElem_cons_zero, List.getElem_cons_succ, List.setIfInBounds_toArray, List.set_cons_zero, List.set_cons_succ]
    refine wpAnyH_done (by kernel_rfl) ?_ _
    go_wp2_with fail
    go_ret
    exact ⟨by first | rfl | simp, HBD.out⟩

/-- The state after the first operations. -/
def dRun (D : DS) (l : List OpV) : DS := l.foldl dStep D
theorem dStep_ok {D : DS} {w : World} {x : OpV} (h : D.Ok) (hx : x.Ok w) : (dStep D x).Ok := by
  unfold dStep
  split
  · exact dWrite_ok h _ _
  split
  · exact dSync_ok h
  split
  · exact ⟨h.pages, h.pend, by have := hx.n; show -1 ≤ max x.n (-1) ∧ max x.n (-1) ≤ 9223372036854775807; omega⟩
  split
  · exact dCrash_ok h _
  · exact h
theorem dStep_len {D : DS} (h : D.Ok) (x : OpV) : (dStep D x).pages.length = D.pages.length ∧ (dStep D x).pend.length ≤ D.pend.length + 1 := by
  have hb := dBurn_pages D
  have hs : ∀ (E : DS) (f : Nat → Int), E.Ok → (dSettle E f).pages.length = E.pages.length := fun E f hE => (settleFrom_ok f 0 E.pend E.pages hE.pages hE.pend).1
  unfold dStep
  split
  · refine ⟨by rw [dWrite_pages], ?_⟩
    by_cases hz : (dWrite D x.page (dataOf x)).2 = 0
    · obtain ⟨_, _, _, _, e⟩ := dWrite_zero D x.page (dataOf x) hz
      rw [e]
      show ((dBurn D).1.pend ++ [_]).length ≤ _
      rw [List.length_append, hb.2]; exact Nat.le_refl _
    · rw [dWrite_pend D _ _ hz]; omega
  split
  · unfold dSync
    split
    · exact ⟨rfl, Nat.le_succ _⟩
    split
    · exact ⟨(hs _ _ (dBurn_ok h)).trans (by rw [hb.1]), Nat.zero_le _⟩
    · rw [hb.1, hb.2]; exact ⟨rfl, Nat.le_succ _⟩
  split
  · exact ⟨rfl, Nat.le_succ _⟩
  split
  · exact ⟨hs _ _ h, Nat.zero_le _⟩
  · exact ⟨rfl, Nat.le_succ _⟩

/-- The disk and the reference between two operations; g: the law's variable that holds the reference. -/
structure Two (W : World) (n g d : Nat) (F : List Nat) (dv pv : Value) (D : DS) (k : Nat) (w : World) : Prop where
  disk : Disk w d F D
  box : Blk w g 53 #[dv, pv, .int .i64 D.fuse, .bool D.failed]
  rk : ∃ vs xs, Rk w (g :: F) D dv pv vs xs
  out : g ∉ F
  lo : ∀ j ∈ F, W.heap.size ≤ j
  glo : W.heap.size ≤ g
  b : Below W.heap.size W w
  len : D.pages.length = n
  pend : D.pend.length ≤ k
theorem Two.step {W w w' : World} {n g d k : Nat} {F : List Nat} {dv pv : Value} {D : DS} (h : Two W n g d F dv pv D k w) (hb : Below w.heap.size w w') : Two W n g d F dv pv D k w' := by
  obtain ⟨vs, xs, hk⟩ := h.rk
  exact ⟨h.disk.step hb, h.box.step hb, ⟨vs, xs, hk.step hb⟩, h.out, h.lo, h.glo, h.b.trans (hb.mono h.b.size), h.len, h.pend⟩
theorem Two.rf {W w : World} {n g d k : Nat} {F : List Nat} {dv pv : Value} {D : DS} (h : Two W n g d F dv pv D k w) : Rf w F (rv dv pv D) D := by
  obtain ⟨vs, xs, hk⟩ := h.rk
  exact ⟨dv, pv, vs, xs, rfl, hk.touch (Touch.refl _ _) (fun j hj => .inl (List.mem_cons.2 (.inr hj)))⟩
/-- Behind a step, when the reference's new value lies in the variable. -/
theorem Two.next {W w w' w2 : World} {n g d k d' : Nat} {F F' : List Nat} {dv pv : Value} {D : DS} {x : OpV} {A : Option Addr} {n1 c : Nat} {B : Option Addr} {m b : Nat} {vs : List Value} {xs : List (Nat × Value)} (h : Two W n g d F dv pv D k w)
    (hd : Disk w' d' F' (dStep D x)) (hr : Rk w' F' (dStep D x) (.slice A n1 c) (.slice B m b) vs xs) (ht : Touch F w w') (hF : ∀ j ∈ F', j ∈ F ∨ w.heap.size ≤ j)
    (h2 : Touch [g] w' w2) (hb2 : Blk w2 g 53 #[.slice A n1 c, .slice B m b, .int .i64 (dStep D x).fuse, .bool (dStep D x).failed]) : Two W n g d' F' (.slice A n1 c) (.slice B m b) (dStep D x) (k + 1) w2 := by
  have hgl := h.box.lt
  have hout : g ∉ F' := fun hm => by
    rcases hF g hm with e | e
    · exact h.out e
    · omega
  obtain ⟨dA, dn, dc, rfl⟩ : ∃ A n c, dv = .slice A n c := by obtain ⟨_, _, hk⟩ := h.rk; obtain ⟨A, c, e, _⟩ := hk.dur.form; exact ⟨A, _, c, e⟩
  obtain ⟨pA, pn, pc, rfl⟩ : ∃ A n c, pv = .slice A n c := by obtain ⟨_, _, hk⟩ := h.rk; obtain ⟨A, c, e, _⟩ := hk.pend.form; exact ⟨A, _, c, e⟩
  have hbx := h.box.touch ht h.out
  have hk2 := hr.away hbx
  have hlen := dStep_len h.disk.ok x
  refine ⟨hd.touch h2 (fun j hj hm => by simp at hm; subst hm; exact hout hj), hb2, ⟨vs, xs, hk2.touch (h2.mono (fun s hs => .inl (by simp at hs; subst hs; simp))) (fun j hj => .inl hj)⟩, hout, fun j hj => ?_, h.glo, Below.touch (Below.touch h.b ht h.lo h.b.size) h2 (by simp; exact h.glo) (Below.touch h.b ht h.lo h.b.size).size, by rw [hlen.1]; exact h.len, by have := h.pend; omega⟩
  rcases hF j hj with e | e
  · exact h.lo j e
  · have := h.b.size; omega
end Go.Proofs.Ytlpnichgfhgdmaa
