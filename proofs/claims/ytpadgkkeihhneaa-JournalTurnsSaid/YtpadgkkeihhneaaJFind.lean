/- The journal in memory; find, check, the methods that look at it. -/
import Derived.Test.YtpadgkkeihhneaaJBlk
namespace Go.Proofs.Ytpadgkkeihhneaa
set_option maxRecDepth 100000
set_option linter.unusedSimpArgs false
set_option linter.unusedVariables false
open Go.ChangeShapes Go.WideShapes Go.ChangeAt Go.RowKit
set_option linter.unusedVariables false
set_option linter.unusedSimpArgs false

def jcells (d : Nat) (J : JS) (rv : Value) : List Value := [.pointer (some ⟨d, 0, none⟩), .int .i64 J.turn, sv J.state, rv, .int .i64 J.used, .bool J.broken]
/-- Block g is the journal J on the disk in block d; F: the blocks of the disk. -/
structure Jr (w : World) (g d : Nat) (F : List Nat) (D : DS) (J : JS) (rv : Value) : Prop where
  blk : Blk w g 50 (jcells d J rv).toArray
  recs : Strs w rv J.records
  gF : g ∉ F
  rF : ∀ j, rv.ownBlock = some j → j ∉ F ∧ j ≠ g
  lt : ∀ j ∈ F, j < w.heap.size
  disk : Disk w d F D
theorem Jr.hd {w : World} {g d : Nat} {F : List Nat} {D : DS} {J : JS} {rv : Value} (h : Jr w g d F D J rv) : Hd w g d F D := ⟨h.blk.cell 0, h.disk⟩
theorem Jr.cells {w : World} {g d : Nat} {F : List Nat} {D : DS} {J : JS} {rv : Value} (h : Jr w g d F D J rv) : ∀ j, w.cell? ⟨g, j, none⟩ = (jcells d J rv)[j]? := fun j => by rw [h.blk.cell j, List.getElem?_toArray]
theorem Jr.touch {S : List Nat} {w w' : World} {g d : Nat} {F : List Nat} {D : DS} {J : JS} {rv : Value} (h : Jr w g d F D J rv) (k : Touch S w w') (hg : g ∉ S) (hr : ∀ j, rv.ownBlock = some j → j ∉ S) (hF : ∀ j ∈ F, j ∉ S) : Jr w' g d F D J rv :=
  ⟨h.blk.touch k hg, h.recs.touch k hr, h.gF, h.rF, fun j hj => Nat.lt_of_lt_of_le (h.lt j hj) k.size, h.disk.touch k hF⟩
theorem Jr.step {w w' : World} {g d : Nat} {F : List Nat} {D : DS} {J : JS} {rv : Value} (h : Jr w g d F D J rv) (k : Below w.heap.size w w') : Jr w' g d F D J rv := h.touch (Touch.below k []) (by simp) (by simp) (by simp)
/-- The journal's own block is stored to. -/
theorem Jr.put {w w' : World} {g d : Nat} {F : List Nat} {D : DS} {J J' : JS} {rv : Value} (h : Jr w g d F D J rv) (k : Touch [g] w w') (hb : Blk w' g 50 (jcells d J' rv).toArray) (hr : J'.records = J.records) : Jr w' g d F D J' rv :=
  ⟨hb, by rw [hr]; exact h.recs.touch k (fun j hj => by simp; exact (h.rF j hj).2), h.gF, h.rF, fun j hj => Nat.lt_of_lt_of_le (h.lt j hj) k.size, h.disk.touch k (fun j hj => by simp; exact fun e => h.gF (e ▸ hj))⟩
theorem Jr.set {w : World} {g d : Nat} {F : List Nat} {D : DS} {J J' : JS} {rv : Value} (h : Jr w g d F D J rv) (i : Nat) (v : Value) (hc : (jcells d J rv).set i v = jcells d J' rv) (hr : J'.records = J.records) : Jr (w.setCell ⟨g, i, none⟩ v) g d F D J' rv :=
  h.put ((Touch.refl [g] w).set (by simp) i v) (by have := h.blk.put i v; rwa [List.setIfInBounds_toArray, hc] at this) hr
/-- The disk has gone on. -/
theorem Jr.does {w w' : World} {g d : Nat} {F : List Nat} {D D' : DS} {J : JS} {rv v : Value} {e : Ending} (h : Jr w g d F D J rv) (k : Does w d F D' v e w') (hl : ∀ j, rv.ownBlock = some j → j < w.heap.size) (hg : g < w.heap.size) :
    e = .returned v ∧ ∃ F', Jr w' g d F' D' J rv ∧ Touch F w w' ∧ ∀ j ∈ F', j ∈ F ∨ w.heap.size ≤ j := by
  obtain ⟨he, F', hd, ht, hF⟩ := k
  refine ⟨he, F', ⟨h.blk.touch ht h.gF, h.recs.touch ht fun j hj => (h.rF j hj).1, fun hm => ?_, fun j hj => ⟨fun hm => ?_, (h.rF j hj).2⟩, fun j hj => ?_, hd⟩, ht, hF⟩
  · rcases hF g hm with h1 | h1
    · exact h.gF h1
    · omega
  · rcases hF j hm with h1 | h1
    · exact (h.rF j hj).1 h1
    · have := hl j hj; omega
  · obtain ⟨gv, pv, hk⟩ := hd
    exact hk.lt j hj
theorem Jr.rlt {w : World} {g d : Nat} {F : List Nat} {D : DS} {J : JS} {rv : Value} (h : Jr w g d F D J rv) : ∀ j, rv.ownBlock = some j → j < w.heap.size := h.recs.lt
theorem Jr.glt {w : World} {g d : Nat} {F : List Nat} {D : DS} {J : JS} {rv : Value} (h : Jr w g d F D J rv) : g < w.heap.size := h.blk.lt
/-- The turn found behind k headers. -/
def findK (D : DS) : Nat → Nat
  | 0 => 0
  | k + 1 => if findK D k < hdrOf k (content D k) ∧ (blk D (hdrOf k (content D k)) 0 0).isSome then hdrOf k (content D k) else findK D k
theorem findK_two (D : DS) : findK D 2 = find1 D := rfl
theorem hdrOf_lt (n : Nat) (b : List UInt8) : hdrOf n b < 2 ^ 40 := by
  unfold hdrOf
  split
  · rename_i h; exact h.1
  · omega
theorem findK_lt (D : DS) (k : Nat) : findK D k < 2 ^ 40 := by
  cases k with
  | zero => show 0 < _; omega
  | succ k =>
    induction k with
    | zero => unfold findK; split; exact hdrOf_lt _ _; show 0 < _; omega
    | succ k ih => unfold findK; split; exact hdrOf_lt _ _; exact ih
theorem blkF_pos (D : DS) (t i a : Nat) : ∀ (f p q : Nat) (s s' : List UInt8) (n : Nat), blkF D t i a f p q s = some (s', n) → p + 1 ≤ n ∧ a + n ≤ half D
  | 0, _, _, _, _, _, h => by cases h
  | f + 1, p, q, s, s', n, h => by
    unfold blkF at h
    split at h
    · cases h
    · rename_i hlt
      split at h
      · cases h
      · rename_i x hx
        split at h
        · split at h
          · rename_i e
            injection h with h
            injection h with h1 h2
            omega
          · have := blkF_pos D t i a f (p + 1) x.q _ _ _ h
            omega
        · cases h
theorem blk_pos {D : DS} {t i a : Nat} {s : List UInt8} {n : Nat} (h : blk D t i a = some (s, n)) : 1 ≤ n ∧ a + n ≤ half D := by
  have := blkF_pos D t i a _ _ _ _ _ _ h
  omega
set_option maxHeartbeats 2000000 in
theorem find_bad (g d : Nat) (F : List Nat) (D : DS) (J : JS) (rv : Value) (w : World) (h : Jr w g d F D J rv) (hf : D.failed = true) :
    Calls Try.prog 17 #[.pointer (some ⟨g, 0, none⟩)] w (Gives w (.int .i64 10)) := by
  have HC := hide (header_bad g d F D 0 w h.hd hf)
  clear h hf
  go_enter Try.func17, Try.ntmps17
  go_wp2_with fail
  go_loopw [8] (fun v8 wr => v8 = .int .i64 0 ∧ w = wr) (fun _ _ => 0)
  case atStart => exact ⟨rfl, rfl⟩
  case round =>
    obtain ⟨rfl, rfl⟩ := hrel
    go_wp2_with fail
    refine HC.out.mono ?_
    rintro e w1 ⟨rfl, hb⟩
    have HB := hide hb
    clear hb
    go_wp2_with fail
    go_ret
    exact ⟨rfl, HB.out⟩
set_option maxHeartbeats 4000000 in
theorem find_c (g d : Nat) (F : List Nat) (D : DS) (J : JS) (rv : Value) (w : World) (h : Jr w g d F D J rv) (ht : J.turn = 0) (hs : D.Sz) (hf : D.failed = false) :
    Calls Try.prog 17 #[.pointer (some ⟨g, 0, none⟩)] w fun e w' => e = .returned (.int .i64 0) ∧ Jr w' g d F D { J with turn := find1 D } rv ∧ Touch [g] w w' := by
  have H : Hid (Jr w g d F D { J with turn := findK D 0 } rv) := by
    have e : ({ J with turn := findK D 0 } : JS) = J := by cases J; subst ht; rfl
    unfold Hid; rw [e]; exact h
  have HS := hide hs
  have HF := hide hf
  clear h ht hs hf
  rw [← findK_two]
  go_enter Try.func17, Try.ntmps17
  go_wp2_with fail
  go_loopw [8] (fun v8 wr => ∃ k : Nat, k ≤ 2 ∧ v8 = .int .i64 k ∧ Jr wr g d F D { J with turn := findK D k } rv ∧ Touch [g] w wr) (fun v8 _ => 2 - (intOf v8).toNat)
  case atStart => exact ⟨0, by omega, rfl, H.out, Touch.refl _ _⟩
  case round =>
    clear H
    obtain ⟨k, hk, rfl, hj, hto⟩ := hrel
    have HJ := hide hj
    have HTO := hide hto
    clear hj hto
    by_cases hlt : k < 2
    · have hHT := hdrOf_lt k (content D k)
      have HN : Hid (findK D (k + 1) = if findK D k < hdrOf k (content D k) ∧ (blk D (hdrOf k (content D k)) 0 0).isSome then hdrOf k (content D k) else findK D k) := hide rfl
      have hft := findK_lt D k
      have HHC := hide (fun X hX => header_c g d F D k hlt X hX HS.out HF.out)
      generalize hdrOf k (content D k) = t at *
      generalize findK D k = f at *
      have c1 := HJ.out.cells 1
      have k1 : wr.cell? ⟨g, 1, none⟩ = some (.int .i64 (f : Int)) := c1
      clear c1
      have HFF := hide hft
      have HTT := hide hHT
      go_wp2_with fail
      refine (HHC.out _ HJ.out.hd).mono ?_
      rintro e w1 ⟨rfl, hb⟩
      replace HJ := hide (HJ.out.step hb)
      replace HTO := hide (HTO.out.step hb)
      have k2 : w1.cell? ⟨g, 1, none⟩ = some (.int .i64 (f : Int)) := HJ.out.cells 1
      clear hb k1
      obtain ⟨zt, hzt⟩ : ∃ z : Int, (t : Int) = z := ⟨_, rfl⟩
      obtain ⟨zf, hzf⟩ : ∃ z : Int, (f : Int) = z := ⟨_, rfl⟩
      have HZ := hide (And.intro hzt hzf)
      rw [hzt]
      rw [hzf] at k2
      clear hzt hzf hft hHT
      by_cases hle : zt ≤ zf
      · have HE : Hid (findK D (k + 1) = f) := hide (by rw [HN.out, if_neg (fun x => by have := HZ.out; have := x.1; omega)])
        go_wp2_with fail
        go_roundw
        case rel => exact ⟨k + 1, by omega, by go_num, by rw [HE.out]; exact HJ.out, HTO.out⟩
        case measure => simp [intOf]; omega
      · have HBC : Hid (Calls Try.prog 33 #[.pointer (some ⟨g, 0, none⟩), .int .i64 zt, .int .i64 0, .int .i64 0] w1 (Gives w1 (blkV (blk D t 0 0)))) := hide (by rw [← HZ.out.1]; exact block_c g d F D t 0 0 (by have := HTT.out; omega) (by omega) (by omega) w1 HJ.out.hd HS.out HF.out)
        have hlt2 : zf < zt := by omega
        clear hle
        go_wp2_with fail
        refine HBC.out.mono ?_
        rintro e w2 ⟨rfl, hb⟩
        replace HJ := hide (HJ.out.step hb)
        replace HTO := hide (HTO.out.step hb)
        clear hb k2
        unfold blkV
        cases hbk : blk D t 0 0 with
        | none =>
          have HE : Hid (findK D (k + 1) = f) := hide (by rw [HN.out, hbk, if_neg (fun x => by have := x.2; simp at this)])
          clear hbk
          go_wp2_with fail
          go_roundw
          case rel => exact ⟨k + 1, by omega, by go_num, by rw [HE.out]; exact HJ.out, HTO.out⟩
          case measure => simp [intOf]; omega
        | some x =>
          obtain ⟨s, n⟩ := x
          have HE : Hid (findK D (k + 1) = t) := hide (by rw [HN.out, hbk, if_pos ⟨by have := HZ.out; omega, rfl⟩])
          have hn : 1 ≤ n := (blk_pos hbk).1
          clear hbk
          have k3 := HJ.out.cells 1
          have f3 := HJ.out.blk.froz 1
          have HJ2 := hide (HJ.out.set (J' := { J with turn := t }) 1 (.int .i64 zt) (by rw [← HZ.out.1]; rfl) rfl)
          have HT2 := hide (HTO.out.set (g := g) (.inl (by simp)) 1 (.int .i64 zt))
          go_wp2_with fail
          go_roundw
          case rel => exact ⟨k + 1, by omega, by go_num, by rw [HE.out]; exact HJ2.out, HT2.out⟩
          case measure => simp [intOf]; omega
    · obtain rfl : k = 2 := by omega
      go_wp2_with fail
      go_ret
      exact ⟨rfl, HJ.out, HTO.out⟩
end Go.Proofs.Ytpadgkkeihhneaa
