/- DiskFuses: after FailAfter(n) just n calls succeed. -/
import Derived.Test.YtlpnichgfhgdmaaAwake
namespace Go.Proofs.Ytlpnichgfhgdmaa
open Go.ChangeShapes Go.WideShapes Go.ChangeAt Go.RowKit
set_option linter.unusedVariables false
set_option linter.unusedSimpArgs false

/-- The law's own variables and the disk. -/
structure Env (W : World) (b3 b5 d : Nat) (s : Int) (F : List Nat) (D : DS) (w : World) : Prop where
  disk : Disk w d F D
  c3 : Blk w b3 32 #[.int .u32 s]
  c5 : Blk w b5 23 #[.pointer (some ⟨d, 0, none⟩)]
  n3 : b3 ∉ F
  n5 : b5 ∉ F
  lo : ∀ j ∈ F, W.heap.size ≤ j
  b : Below W.heap.size W w
theorem Env.does {W : World} {b3 b5 d : Nat} {s : Int} {F : List Nat} {D D' : DS} {w w' : World} {v : Value} {e : Ending} (h : Env W b3 b5 d s F D w) (k : Does w d F D' v e w') : e = .returned v ∧ ∃ F', Env W b3 b5 d s F' D' w' := by
  obtain ⟨rfl, F', hd, ht, hF⟩ := k
  refine ⟨rfl, F', hd, h.c3.touch ht h.n3, h.c5.touch ht h.n5, ?_, ?_, ?_, Below.touch h.b ht h.lo h.b.size⟩
  · intro hm
    rcases hF _ hm with e | e
    · exact h.n3 e
    · have := h.c3.lt; omega
  · intro hm
    rcases hF _ hm with e | e
    · exact h.n5 e
    · have := h.c5.lt; omega
  · intro j hj
    rcases hF _ hj with e | e
    · exact h.lo j e
    · have := h.b.size; omega
theorem Env.step {W : World} {b3 b5 d : Nat} {s : Int} {F : List Nat} {D : DS} {w w' : World} (h : Env W b3 b5 d s F D w) (k : Below w.heap.size w w') : Env W b3 b5 d s F D w' :=
  ⟨h.disk.step k, h.c3.step k, h.c5.step k, h.n3, h.n5, h.lo, h.b.trans (k.mono h.b.size)⟩
theorem Env.cell {W : World} {b3 b5 d : Nat} {s : Int} {F : List Nat} {D : DS} {w : World} (h : Env W b3 b5 d s F D w) : w.cell? ⟨b5, 0, none⟩ = some (.pointer (some ⟨d, 0, none⟩)) := h.c5.cell 0
theorem Env.cell3 {W : World} {b3 b5 d : Nat} {s : Int} {F : List Nat} {D : DS} {w : World} (h : Env W b3 b5 d s F D w) : w.cell? ⟨b3, 0, none⟩ = some (.int .u32 s) := h.c3.cell 0
theorem Env.drew {W : World} {b3 b5 d : Nat} {s : Int} {F : List Nat} {D : DS} {w : World} (h : Env W b3 b5 d s F D w) : Env W b3 b5 d s F D w.drew := h.step ((Below.refl _ _).drew)
theorem Env.alloc {W : World} {b3 b5 d : Nat} {s : Int} {F : List Nat} {D : DS} {w : World} (h : Env W b3 b5 d s F D w) (o : Obj) : Env W b3 b5 d s F D (w.alloc o) := h.step ((Below.refl _ _).alloc (Nat.le_refl _) o)
theorem Env.flt {W : World} {b3 b5 d : Nat} {s : Int} {F : List Nat} {D : DS} {w : World} (h : Env W b3 b5 d s F D w) : ∀ j ∈ F, j < w.heap.size := by obtain ⟨gv, pv, hd⟩ := h.disk; exact hd.lt

def zz : List UInt8 := List.replicate 128 0
theorem zz_bs (w : World) : Bs (w.alloc (.cells (zb 128) 5)) (.slice (some ⟨w.heap.size, 0, none⟩) 128 128) zz := Bs.blk (Blk.new _ _ _) (zb_list 128) 128 (by simp [zz]) (by simp [zz, maxLen])
/-- One of the law's calls: Sync or Write. -/
def dCalls (D : DS) (i : Int) (r : DS × Int) : Prop := r = dSync D ∨ r = dWrite D (i % 3) zz
def CallR (W : World) (b3 b5 d : Nat) (s : Int) (D : DS) (i : Int) (e : Ending) (w' : World) : Prop :=
  ∃ r F', dCalls D i r ∧ e = .returned (.int .i64 r.2) ∧ Env W b3 b5 d s F' r.1 w'

set_option maxRecDepth 100000 in
set_option maxHeartbeats 2000000 in
theorem call_f (W : World) (b3 b5 d : Nat) (s : Int) (F : List Nat) (D : DS) (i : Int) (h0 : 0 ≤ i) (h1 : i ≤ 20) (w : World) (h : Env W b3 b5 d s F D w) (hpl : D.pend.length ≤ 1000000) :
    Calls Try.prog 17 #[.int .i64 i, .pointer (some ⟨b3, 0, none⟩), .pointer (some ⟨b5, 0, none⟩)] w (CallR W b3 b5 d s D i) := by
  have hm : ∀ W : World, (Instr.makeSlice 28 (.int .i64 128) (.int .i64 128)).run Try.prog W = .ok (.slice (some ⟨W.heap.size, 0, none⟩) 128 128) (W.alloc (.cells (zb 128) 5)) := run_make_bytes 128 (by decide)
  have HE := hide h
  have HPL := hide hpl
  have k3 := h.cell3
  have k5 := h.cell
  have e32 : i.tmod 32 = i % 32 := Int.tmod_eq_emod_of_nonneg h0
  have e3 : i.tmod 3 = i % 3 := Int.tmod_eq_emod_of_nonneg h0
  have hge : (0 : Int) ≤ i % 32 := by omega
  have H0 := hide h0
  have H1 := hide h1
  clear h hpl
  go_enter Try.func17, Try.ntmps17
  go_wp2_with fail
  · refine (sync_c d F D w HE.out.disk).mono ?_
    rintro e w2 hd
    obtain ⟨rfl, F', h'⟩ := HE.out.does hd
    clear hd
    have H' := hide h'
    clear h'
    go_wp2_with fail
    go_ret
    exact ⟨_, F', .inl rfl, rfl, H'.out⟩
  · clear k3 e32 hge
    refine wp_region_held_drew (S := fun w' => w'.cell? ⟨b5, 0, none⟩ = some (.pointer (some ⟨d, 0, none⟩))) (by kernel_rfl) (k5) (fun hS0 => ?_)
    refine wpAnyH_take (i := 0) (v := ?va0) rfl (by kernel_rfl) (by kernel_rfl) (by kernel_rfl) (fun _ _ _ h => h) (Or.inl ⟨by rfl, ?hya0⟩) (by assumption) ?resta0
    case hya0 => (intro w hSw; (try dsimp only at hSw); go_simp; first | done | (with_reducible rfl))
    try simp only [Act.put, List.getElem_toArray, List.getElem_cons_zero, List.getElem_cons_succ, List.setIfInBounds_toArray, List.set_cons_zero, List.set_cons_succ]
    refine wpAnyH_take (i := 1) (v := ?va1) rfl (by kernel_rfl) (by kernel_rfl) (by kernel_rfl) (fun _ _ _ h => h) (Or.inl ⟨by rfl, ?hya1⟩) (by assumption) ?resta1
    case hya1 => (intro w hSw; (try dsimp only at hSw); go_simp; first | done | (with_reducible rfl))
    try simp only [Act.put, List.getElem_toArray, List.getElem_cons_zero, List.getElem_cons_succ, List.setIfInBounds_toArray, List.set_cons_zero, List.set_cons_succ]
    refine wpAnyH_take (i := 2) (v := ?va2) rfl (by kernel_rfl) (by kernel_rfl) (by kernel_rfl) (fun _ _ _ h => h) (Or.inl ⟨by rfl, ?hya2⟩) (by assumption) ?resta2
    case hya2 => (intro w hSw; (try dsimp only at hSw); go_simp; first | done | (with_reducible rfl))
    try simp only [Act.put, List.getElem_toArray, List.getElem_cons_zero, List.getElem_cons_succ, List.setIfInBounds_toArray, List.set_cons_zero, List.set_cons_succ]
    refine wpAnyH_ready (rs := [3]) (by kernel_rfl) (by simp) ?_
    refine AllReadyH.cons rfl (fun K hK => ?_) AllReadyH.nil
    go_simp
    refine hK.out _ _ (HE.out.drew.alloc _ |>.cell) (fun hS3 => ?_)
    clear hK K
    try simp only [Act.put, List.getElem_toArray, List.getElem_cons_zero, List.getElem_cons_succ, List.setIfInBounds_toArray, List.set_cons_zero, List.set_cons_succ]
    refine wpAnyH_ready (rs := [4]) (by kernel_rfl) (by simp) ?_
    refine AllReadyH.cons rfl (fun K hK => ?_) AllReadyH.nil
    go_simp
    refine (write_c d F D (i % 3) _ zz _ ((HE.out.drew.alloc _).disk) (zz_bs _) (fun _ j hj => ?_) HPL.out).mono ?_
    · have e : w.heap.size = j := by injection hj
      subst e
      refine ⟨fun hm => ?_, by simp⟩
      have := HE.out.flt _ hm; omega
    rintro e w2 hd
    obtain ⟨rfl, F', h'⟩ := (HE.out.drew.alloc _).does hd
    clear hd
    have H' := hide h'
    clear h'
    refine hK.out _ _ (H'.out.cell) (fun hS4 => ?_)
    clear hK K
    try simp only [Act.put, List.getElem_toArray, List.getElem_cons_zero, List.getElem_cons_succ, List.setIfInBounds_toArray, List.set_cons_zero, List.set_cons_succ]
    refine wpAnyH_take (i := 5) (v := ?va5) rfl (by kernel_rfl) (by kernel_rfl) (by kernel_rfl) (fun _ _ _ h => h) (Or.inl ⟨by rfl, ?hya5⟩) (by assumption) ?resta5
    case hya5 => (intro w hSw; (try dsimp only at hSw); go_simp; first | done | (with_reducible rfl))
    try simp only [Act.put, List.getElem_toArray, List.getElem_cons_zero, List.getElem_cons_succ, List.setIfInBounds_toArray, List.set_cons_zero, List.set_cons_succ]
    refine wpAnyH_done (by kernel_rfl) ?_ _
    go_wp2_with fail
    go_ret
    exact ⟨_, F', .inr rfl, rfl, H'.out⟩

/-- The disk between two calls: m of them are left. -/
structure Fz (D : DS) (m : Int) (i : Nat) : Prop where
  failed : D.failed = false
  fuse : D.fuse = m
  len : D.pages.length = 3
  pend : D.pend.length ≤ i
theorem zz_len : zz.length = 128 := by simp [zz]
theorem fz_nine {D : DS} {m : Int} {i : Nat} (h : Fz D m i) : dWrite D 9 zz = (D, 2) := by
  unfold dWrite
  rw [if_neg (by simp [h.failed]), if_neg (by simp [zz_len]), if_pos (by simp [thereB, h.len])]
theorem fz_nil {D : DS} {m : Int} {i : Nat} (h : Fz D m i) : dWrite D 0 [] = (D, 1) := by
  unfold dWrite
  rw [if_neg (by simp [h.failed]), if_pos (by simp)]
theorem fz_burn {D : DS} {m : Int} {i : Nat} (h : Fz D m i) (hm : m ≠ 0) : (dBurn D).2 = 0 ∧ Fz (dBurn D).1 (if 0 < m then m - 1 else m) i := by
  have hf := h.fuse
  unfold dBurn
  rw [if_neg (by omega)]
  by_cases h1 : 0 < m
  · rw [if_pos (by omega), if_pos h1]
    exact ⟨rfl, h.failed, by show D.fuse - 1 = m - 1; omega, h.len, h.pend⟩
  · rw [if_neg (by omega), if_neg h1]
    exact ⟨rfl, h⟩
theorem fz_call {D : DS} {m : Int} {i : Nat} (h : Fz D m i) (hok : D.Ok) (hm : m ≠ 0) (j : Int) (hj : 0 ≤ j) {r : DS × Int} (hr : dCalls D j r) : r.2 = 0 ∧ Fz r.1 (if 0 < m then m - 1 else m) (i + 1) := by
  obtain ⟨b1, b2⟩ := fz_burn h hm
  rcases hr with rfl | rfl
  · unfold dSync
    rw [if_neg (by simp [h.failed]), if_pos b1]
    have hl := (settleFrom_ok (fun _ => 128) 0 (dBurn D).1.pend (dBurn D).1.pages (dBurn_ok hok).pages (dBurn_ok hok).pend).1
    exact ⟨rfl, b2.failed, b2.fuse, hl.trans b2.len, Nat.zero_le _⟩
  · unfold dWrite
    have hl := h.len
    rw [if_neg (by simp [h.failed]), if_neg (by simp [zz_len]), if_neg (by simp [thereB, h.len]; omega), if_pos b1]
    refine ⟨rfl, b2.failed, b2.fuse, b2.len, ?_⟩
    have := b2.pend
    show ((dBurn D).1.pend ++ [_]).length ≤ _
    simp; omega
theorem fz_last {D : DS} {i : Nat} (h : Fz D 0 i) (j : Int) (hj : 0 ≤ j) {r : DS × Int} (hr : dCalls D j r) : r.2 = 10 ∧ r.1.failed = true ∧ r.1.pages.length = 3 ∧ r.1.pend.length ≤ i := by
  have b : dBurn D = ({ D with failed := true }, 10) := by unfold dBurn; rw [if_pos h.fuse]
  rcases hr with rfl | rfl
  · unfold dSync
    rw [if_neg (by simp [h.failed]), if_neg (by rw [b]; simp), b]
    exact ⟨rfl, rfl, h.len, h.pend⟩
  · unfold dWrite
    rw [if_neg (by simp [h.failed]), if_neg (by simp [zz_len]), if_neg (by simp [thereB, h.len]; omega), if_neg (by rw [b]; simp), b]
    exact ⟨rfl, rfl, h.len, h.pend⟩
theorem dead_write {D : DS} (h : D.failed = true) (p : Int) (l : List UInt8) : dWrite D p l = (D, 10) := by unfold dWrite; rw [if_pos h]
theorem dead_sync {D : DS} (h : D.failed = true) : dSync D = (D, 10) := by unfold dSync; rw [if_pos h]
theorem dead_read {D : DS} (h : D.failed = true) (p : Int) : dRead D p = ([], 10) := by unfold dRead; rw [if_pos h]
theorem fz_crash {D : DS} (hok : D.Ok) (h : D.pages.length = 3) (s : List Int) : Fz (dCrash D s) (-1) 0 :=
  ⟨rfl, rfl, (settleFrom_ok (fun i => s.getD i 0) 0 D.pend D.pages hok.pages hok.pend).1.trans h, Nat.le_refl _⟩

def FzR (W : World) (b3 b5 d : Nat) (s : Int) (k : Nat) (vi : Value) (wr : World) : Prop :=
  ∃ (i : Nat) (F : List Nat) (D : DS), vi = .int .i64 i ∧ i ≤ k ∧ Env W b3 b5 d s F D wr ∧ Fz D ((k : Int) - i) i

set_option maxRecDepth 100000 in
set_option maxHeartbeats 4000000 in
theorem walkDiskFuses (W : World) (a0 : Int) (ws0 : (Lit.int .u8 a0).wf = true) (s : Int) (ws1 : (Lit.int .u32 s).wf = true) :
    Calls Try.prog 4 #[.int .u8 a0, .int .u32 s] W fun e w' => e = .returned (.bool true) ∧ Below W.heap.size W w' := by
  have hm : ∀ W : World, (Instr.makeSlice 28 (.int .i64 128) (.int .i64 128)).run Try.prog W = .ok (.slice (some ⟨W.heap.size, 0, none⟩) 128 128) (W.alloc (.cells (zb 128) 5)) := run_make_bytes 128 (by decide)
  have hmf : ∀ (fn : Fn) (first cap : Array Value) (w : World), (Instr.makeFunc fn first cap).run Try.prog w = .ok (.func fn first cap) w := fun _ _ _ _ => rfl
  have ⟨q0, q1⟩ : 0 ≤ a0 ∧ a0 ≤ 255 := by simpa [Lit.wf, IntKind.min, IntKind.max, IntKind.signed, IntKind.bits] using ws0
  have e21 : a0.tmod 21 = a0 % 21 := Int.tmod_eq_emod_of_nonneg q0
  obtain ⟨k, hk⟩ : ∃ k : Nat, a0 % 21 = k := ⟨(a0 % 21).toNat, by omega⟩
  have HK : Hid (k ≤ 20) := hide (by omega)
  rw [hk] at e21
  have hk20 : (k : Int) ≤ 20 := by omega
  have H1 := hide (Nat.le_refl W.heap.size)
  clear ws0 ws1 hk q0 q1
  go_enter Try.func4, Try.ntmps4
  go_wp2_with fail
  refine (awake_c _).mono ?_
  rintro e w1 ⟨rfl, hb⟩
  have HB1 := hide hb
  clear hb
  go_wp2_with fail
  refine (new_c 3 (by decide) (by decide) w1).mono ?_
  rintro e w2 ⟨d, F, rfl, hd, hb2, hF⟩
  have hd0 : d ∈ F := by obtain ⟨gv, pv, hd⟩ := hd; exact hd.inF
  have hs1 : W.heap.size + 1 ≤ w1.heap.size := by have := HB1.out.size; simpa using this
  have hs2 := hb2.size
  have hfl : ∀ j ∈ F, j < w2.heap.size := by obtain ⟨gv, pv, hd⟩ := hd; exact hd.lt
  have k1 : Below W.heap.size W w1 := ((Below.refl W.heap.size W).alloc (Nat.le_refl _) _).trans (HB1.out.mono (by simp))
  have HE : Hid (Env W W.heap.size w2.heap.size d s F (dNew 3) (w2.alloc (.cells #[.pointer (some ⟨d, 0, none⟩)] 23))) := hide
    ⟨hd.step ((Below.refl _ _).alloc (Nat.le_refl _) _), ((((Blk.new W 32 _).step HB1.out).step hb2).alloc _), Blk.new w2 _ _, fun hm => by have := hF _ hm; omega, fun hm => by have := hfl _ hm; omega,
      fun j hj => by have := hF _ hj; omega, ((k1.trans (hb2.mono (by omega))).alloc (by omega) _)⟩
  have HF0 : Hid (Fz (dFailAfter (dNew 3) (k : Int)) ((k : Int) - (0 : Nat)) 0) := hide ⟨rfl, by unfold dFailAfter; show max (k : Int) (-1) = _; omega, by simp [dFailAfter, dNew], by simp [dFailAfter, dNew]⟩
  clear hd hb2 hF hd0 hs1 hs2 hfl k1 HB1
  go_wp2_with fail
  refine (failAfter_c d F (dNew 3) (k : Int) (by have := HK.out; omega) _ HE.out.disk).mono ?_
  rintro e w3 hd
  obtain ⟨rfl, F3, h'⟩ := HE.out.does hd
  clear hd HE
  have HE := hide h'
  have HOK := hide h'.disk.ok
  clear h'
  generalize dFailAfter (dNew 3) (k : Int) = D0 at *
  have k5 := HE.out.cell
  go_wp2_with fail
  go_loopw [9] (fun v9 wr => FzR W W.heap.size w2.heap.size d s k v9 wr) (fun v9 _ => k - (intOf v9).toNat)
  case atStart => exact ⟨0, F3, D0, rfl, Nat.zero_le _, HE.out, HF0.out⟩
  case round =>
    obtain ⟨i, F1, D1, rfl, hi, he, hz⟩ := hrel
    have HE1 := hide he
    have HZ := hide hz
    have HI := hide hi
    have HOK1 := hide he.disk.ok
    clear hz hi k5 HE HF0 HOK
    have k5 := he.cell
    clear he
    by_cases hlt : i < k
    · have hlt' : (i : Int) < (k : Int) := by omega
      have HLT := hide hlt
      clear hlt
      go_wp2_with fail
      refine wp_region_held_drew (S := fun w' => w'.cell? ⟨w2.heap.size, 0, none⟩ = some (.pointer (some ⟨d, 0, none⟩))) (by kernel_rfl) (k5) (fun hS0 => ?_)
      refine wpAnyH_take (i := 0) (v := ?vb0) rfl (by kernel_rfl) (by kernel_rfl) (by kernel_rfl) (fun _ _ _ h => h) (Or.inl ⟨by rfl, ?hyb0⟩) (by assumption) ?restb0
      case hyb0 => (intro w hSw; (try dsimp only at hSw); go_simp; first | done | (with_reducible rfl))
      try simp only [Act.put, List.getElem_toArray, List.getElem_cons_zero, List.getElem_cons_succ, List.setIfInBounds_toArray, List.set_cons_zero, List.set_cons_succ]
      refine wpAnyH_ready (rs := [1]) (by kernel_rfl) (by simp) ?_
      refine AllReadyH.cons rfl (fun K hK => ?_) AllReadyH.nil
      go_simp
      refine hK.out _ _ (HE1.out.drew.alloc _ |>.cell) (fun hS1 => ?_)
      clear hK K
      try simp only [Act.put, List.getElem_toArray, List.getElem_cons_zero, List.getElem_cons_succ, List.setIfInBounds_toArray, List.set_cons_zero, List.set_cons_succ]
      refine wpAnyH_ready (rs := [2]) (by kernel_rfl) (by simp) ?_
      refine AllReadyH.cons rfl (fun K hK => ?_) AllReadyH.nil
      go_simp
      have HC := hide (write_c d F1 D1 9 _ zz _ ((HE1.out.drew.alloc (.cells (zb 128) 5)).disk) (zz_bs _) (fun _ j hj => by
        have e : wr.heap.size = j := by injection hj
        subst e
        refine ⟨fun hm => ?_, by simp⟩
        have := HE1.out.flt _ hm; omega) (by have := HZ.out.pend; have := HI.out; have := HK.out; omega))
      rw [fz_nine HZ.out] at HC
      refine HC.out.mono ?_
      rintro e w4 hd
      obtain ⟨rfl, F4, h'⟩ := (HE1.out.drew.alloc _).does hd
      clear hd HC
      have HE4 := hide h'
      clear h'
      refine hK.out _ _ (HE4.out.cell) (fun hS2 => ?_)
      clear hK K
      try simp only [Act.put, List.getElem_toArray, List.getElem_cons_zero, List.getElem_cons_succ, List.setIfInBounds_toArray, List.set_cons_zero, List.set_cons_succ]
      refine wpAnyH_take (i := 3) (v := ?vb3) rfl (by kernel_rfl) (by kernel_rfl) (by kernel_rfl) (fun _ _ _ h => h) (Or.inl ⟨by rfl, ?hyb3⟩) (by assumption) ?restb3
      case hyb3 => (intro w hSw; (try dsimp only at hSw); go_simp; first | done | (with_reducible rfl))
      try simp only [Act.put, List.getElem_toArray, List.getElem_cons_zero, List.getElem_cons_succ, List.setIfInBounds_toArray, List.set_cons_zero, List.set_cons_succ]
      refine wpAnyH_take (i := 4) (v := ?vb4) rfl (by kernel_rfl) (by kernel_rfl) (by kernel_rfl) (fun _ _ _ h => h) (Or.inl ⟨by rfl, ?hyb4⟩) (by assumption) ?restb4
      case hyb4 => (intro w hSw; (try dsimp only at hSw); go_simp; first | done | (with_reducible rfl))
      try simp only [Act.put, List.getElem_toArray, List.getElem_cons_zero, List.getElem_cons_succ, List.setIfInBounds_toArray, List.set_cons_zero, List.set_cons_succ]
      refine wpAnyH_take (i := 5) (v := ?vb5) rfl (by kernel_rfl) (by kernel_rfl) (by kernel_rfl) (fun _ _ _ h => h) (Or.inl ⟨by rfl, ?hyb5⟩) (by assumption) ?restb5
      case hyb5 => (intro w hSw; (try dsimp only at hSw); go_simp; first | done | (with_reducible rfl))
      try simp only [Act.put, List.getElem_toArray, List.getElem_cons_zero, List.getElem_cons_succ, List.setIfInBounds_toArray, List.set_cons_zero, List.set_cons_succ]
      refine wpAnyH_ready (rs := [6]) (by kernel_rfl) (by simp) ?_
      refine AllReadyH.cons rfl (fun K hK => ?_) AllReadyH.nil
      go_simp
      have HC := hide (write_c d F4 D1 0 _ [] _ HE4.out.disk (Bs.nil _) (fun h => absurd rfl h) (by have := HZ.out.pend; have := HI.out; have := HK.out; omega))
      rw [fz_nil HZ.out] at HC
      refine HC.out.mono ?_
      rintro e w5 hd
      obtain ⟨rfl, F5, h'⟩ := HE4.out.does hd
      clear hd HC
      have HE5 := hide h'
      clear h'
      refine hK.out _ _ (HE5.out.cell) (fun hS6 => ?_)
      clear hK K
      try simp only [Act.put, List.getElem_toArray, List.getElem_cons_zero, List.getElem_cons_succ, List.setIfInBounds_toArray, List.set_cons_zero, List.set_cons_succ]
      refine wpAnyH_take (i := 7) (v := ?vb7) rfl (by kernel_rfl) (by kernel_rfl) (by kernel_rfl) (fun _ _ _ h => h) (Or.inl ⟨by rfl, ?hyb7⟩) (by assumption) ?restb7
      case hyb7 => (intro w hSw; (try dsimp only at hSw); go_simp; first | done | (with_reducible rfl))
      try simp only [Act.put, List.getElem_toArray, List.getElem_cons_zero, List.getElem_cons_succ, List.setIfInBounds_toArray, List.set_cons_zero, List.set_cons_succ]
      refine wpAnyH_take (i := 8) (v := ?vb8) rfl (by kernel_rfl) (by kernel_rfl) (by kernel_rfl) (fun _ _ _ h => h) (Or.inl ⟨by rfl, ?hyb8⟩) (by assumption) ?restb8
      case hyb8 => (intro w hSw; (try dsimp only at hSw); go_simp; first | done | (with_reducible rfl))
      try simp only [Act.put, List.getElem_toArray, List.getElem_cons_zero, List.getElem_cons_succ, List.setIfInBounds_toArray, List.set_cons_zero, List.set_cons_succ]
      refine wpAnyH_take (i := 9) (v := ?vb9) rfl (by kernel_rfl) (by kernel_rfl) (by kernel_rfl) (fun _ _ _ h => h) (Or.inl ⟨by rfl, ?hyb9⟩) (by assumption) ?restb9
      case hyb9 => (intro w hSw; (try dsimp only at hSw); go_simp; first | done | (with_reducible rfl))
      try simp only [Act.put, List.getElem_toArray, List.getElem_cons_zero, List.getElem_cons_succ, List.setIfInBounds_toArray, List.set_cons_zero, List.set_cons_succ]
      refine wpAnyH_take (i := 10) (v := ?vb10) rfl (by kernel_rfl) (by kernel_rfl) (by kernel_rfl) (fun _ _ _ h => h) (Or.inl ⟨by rfl, ?hyb10⟩) (by assumption) ?restb10
      case hyb10 => (intro w hSw; (try dsimp only at hSw); go_simp; first | done | (with_reducible rfl))
      try simp only [Act.put, List.getElem_toArray, List.getElem_cons_zero, List.getElem_cons_succ, List.setIfInBounds_toArray, List.set_cons_zero, List.set_cons_succ]
      refine wpAnyH_take (i := 11) (v := ?vb11) rfl (by kernel_rfl) (by kernel_rfl) (by kernel_rfl) (fun _ _ _ h => h) (Or.inl ⟨by rfl, ?hyb11⟩) (by assumption) ?restb11
      case hyb11 => (intro w hSw; (try dsimp only at hSw); go_simp; first | done | (with_reducible rfl))
      try simp only [Act.put, List.getElem_toArray, List.getElem_cons_zero, List.getElem_cons_succ, List.setIfInBounds_toArray, List.set_cons_zero, List.set_cons_succ]
      refine wpAnyH_ready (rs := [12]) (by kernel_rfl) (by simp) ?_
      refine AllReadyH.cons rfl (fun K hK => ?_) AllReadyH.nil
      go_simp
      refine (call_f W _ _ d s F5 D1 (i : Int) (by omega) (by omega) _ HE5.out (by have := HZ.out.pend; have := HI.out; have := HK.out; omega)).mono ?_
      rintro e w6 ⟨r, F6, hr, he, h'⟩
      have hz6 := fz_call HZ.out HOK1.out (by omega) (i : Int) (by omega) hr
      rw [hz6.1] at he
      subst he
      have HE6 := hide h'
      have HZ6 := hide hz6.2
      clear h' hz6 hr
      have HFA := hide (failed_c d F6 r.1 w6 HE6.out.disk)
      rw [HZ6.out.failed] at HFA
      refine hK.out _ _ (HE6.out.cell) (fun hS12 => ?_)
      clear hK K
      try simp only [Act.put, List.getElem_toArray, List.getElem_cons_zero, List.getElem_cons_succ, List.setIfInBounds_toArray, List.set_cons_zero, List.set_cons_succ]
      refine wpAnyH_take (i := 13) (v := ?vb13) rfl (by kernel_rfl) (by kernel_rfl) (by kernel_rfl) (fun _ _ _ h => h) (Or.inl ⟨by rfl, ?hyb13⟩) (by assumption) ?restb13
      case hyb13 => (intro w hSw; (try dsimp only at hSw); go_simp; first | done | (with_reducible rfl))
      try simp only [Act.put, List.getElem_toArray, List.getElem_cons_zero, List.getElem_cons_succ, List.setIfInBounds_toArray, List.set_cons_zero, List.set_cons_succ]
      refine wpAnyH_take (i := 14) (v := ?vb14) rfl (by kernel_rfl) (by kernel_rfl) (by kernel_rfl) (fun _ _ _ h => h) (Or.inl ⟨by rfl, ?hyb14⟩) (by assumption) ?restb14
      case hyb14 => (intro w hSw; (try dsimp only at hSw); go_simp; first | done | (with_reducible rfl))
      try simp only [Act.put, List.getElem_toArray, List.getElem_cons_zero, List.getElem_cons_succ, List.setIfInBounds_toArray, List.set_cons_zero, List.set_cons_succ]
      refine wpAnyH_take (i := 15) (v := ?vb15) rfl (by kernel_rfl) (by kernel_rfl) (by kernel_rfl) (fun _ _ _ h => h) (Or.inl ⟨by rfl, ?hyb15⟩) (by assumption) ?restb15
      case hyb15 => (intro w hSw; (try dsimp only at hSw); go_simp; first | done | (with_reducible rfl))
      try simp only [Act.put, List.getElem_toArray, List.getElem_cons_zero, List.getElem_cons_succ, List.setIfInBounds_toArray, List.set_cons_zero, List.set_cons_succ]
      refine wpAnyH_take (i := 16) (v := ?vb16) rfl (by kernel_rfl) (by kernel_rfl) (by kernel_rfl) (fun _ _ _ h => h) (Or.inl ⟨by rfl, ?hyb16⟩) (by assumption) ?restb16
      case hyb16 => (intro w hSw; (try dsimp only at hSw); go_simp; first | done | (with_reducible rfl))
      try simp only [Act.put, List.getElem_toArray, List.getElem_cons_zero, List.getElem_cons_succ, List.setIfInBounds_toArray, List.set_cons_zero, List.set_cons_succ]
      refine wpAnyH_ready (rs := [17]) (by kernel_rfl) (by simp) ?_
      refine AllReadyH.cons rfl (fun K hK => ?_) AllReadyH.nil
      go_simp
      refine HFA.out.mono ?_
      rintro e w7 ⟨rfl, rfl⟩
      clear HFA
      refine hK.out _ _ (HE6.out.cell) (fun hS17 => ?_)
      clear hK K
      try simp only [Act.put, List.getElem_toArray, List.getElem_cons_zero, List.getElem_cons_succ, List.setIfInBounds_toArray, List.set_cons_zero, List.set_cons_succ]
      refine wpAnyH_take (i := 18) (v := ?vb18) rfl (by kernel_rfl) (by kernel_rfl) (by kernel_rfl) (fun _ _ _ h => h) (Or.inl ⟨by rfl, ?hyb18⟩) (by assumption) ?restb18
      case hyb18 => (intro w hSw; (try dsimp only at hSw); go_simp; first | done | (with_reducible rfl))
      try simp only [Act.put, List.getElem_toArray, List.getElem_cons_zero, List.getElem_cons_succ, List.setIfInBounds_toArray, List.set_cons_zero, List.set_cons_succ]
      refine wpAnyH_done (by kernel_rfl) ?_ _
      go_wp2_with fail
      go_roundw
      case rel => exact ⟨i + 1, F6, r.1, by go_num, by have := HLT.out; omega, HE6.out, by
        have := HZ6.out
        rw [if_pos (by omega)] at this
        have e : ((k : Int) - (i + 1 : Nat)) = (k : Int) - i - 1 := by omega
        rw [e]; exact this⟩
      case measure => have := HLT.out; simp [intOf]; omega
    · obtain rfl : i = k := by have := HI.out; omega
      have hz0 : (i : Int) - (i : Int) = 0 := by omega
      rw [hz0] at HZ
      clear hz0 HI hlt
      obtain ⟨w10, hw10⟩ : ∃ w10, w10 = wr := ⟨_, rfl⟩
      go_wp2_with fail
      refine (call_f W _ _ d s F1 D1 (i : Int) (by omega) (by omega) _ HE1.out (by have := HZ.out.pend; have := HK.out; omega)).mono ?_
      rintro e w6 ⟨r, F6, hr, he, h'⟩
      have hz6 := fz_last HZ.out (i : Int) (by omega) hr
      rw [hz6.1] at he
      subst he
      have HE6 := hide h'
      have HZ6 := hide hz6.2
      have k6 := h'.cell
      clear h' hz6 hr k5
      have HFA := hide (failed_c d F6 r.1 w6 HE6.out.disk)
      rw [HZ6.out.1] at HFA
      go_wp2_with fail
      refine HFA.out.mono ?_
      rintro e w7 ⟨rfl, rfl⟩
      clear HFA
      have HC := hide (write_c d F6 r.1 9 _ [] _ HE6.out.disk (Bs.nil _) (fun h => absurd rfl h) (by have := HZ6.out.2.2; have := HK.out; omega))
      rw [dead_write HZ6.out.1] at HC
      go_wp2_with fail
      refine HC.out.mono ?_
      rintro e w8 hd
      obtain ⟨rfl, F8, h'⟩ := HE6.out.does hd
      have HE8 := hide h'
      have k8 := h'.cell
      clear hd h' HC k6
      have HC := hide (sync_c d F8 r.1 _ HE8.out.disk)
      rw [dead_sync HZ6.out.1] at HC
      go_wp2_with fail
      refine HC.out.mono ?_
      rintro e w9 hd
      obtain ⟨rfl, F9, h'⟩ := HE8.out.does hd
      have HE9 := hide h'
      have k9 := h'.cell
      clear hd h' HC k8
      have HC := hide (read_c d F9 r.1 0 _ HE9.out.disk)
      unfold ReadR at HC
      rw [dead_read HZ6.out.1] at HC
      go_wp2_with fail
      refine HC.out.mono ?_
      rintro e w11 ⟨v, rfl, _, _, hb⟩
      have HE11 := hide (HE9.out.step hb)
      have k11 := HE11.out.cell
      clear hb HC k9
      go_wp2_with fail
      refine (crash_c d F9 r.1 _ [] w11 HE11.out.disk (Is.nil _) (fun j hj => by cases hj)).mono ?_
      rintro e w12 hd
      obtain ⟨rfl, F12, h'⟩ := HE11.out.does hd
      have HE12 := hide h'
      have HZ12 := hide (fz_crash HE11.out.disk.ok HZ6.out.2.1 [])
      have HOK12 := hide h'.disk.ok
      have k12 := h'.cell
      have HFA := hide (failed_c d F12 _ w12 h'.disk)
      rw [HZ12.out.failed] at HFA
      clear hd h' k11
      go_wp2_with fail
      refine HFA.out.mono ?_
      rintro e w13 ⟨rfl, rfl⟩
      clear HFA
      go_wp2_with fail
      refine (call_f W _ _ d s F12 _ 0 (by omega) (by omega) _ HE12.out (by have := HZ12.out.pend; omega)).mono ?_
      rintro e w14 ⟨r2, F14, hr, he, h'⟩
      have hz6 := fz_call HZ12.out HOK12.out (by omega) 0 (by omega) hr
      rw [hz6.1] at he
      subst he
      have HB := hide h'.b
      clear hz6 hr h' k12
      go_wp2_with fail
      go_ret
      exact ⟨rfl, HB.out⟩
end Go.Proofs.Ytlpnichgfhgdmaa
