/- The reference's Coincides. -/
import Derived.Test.YtpadgkkeihhneaaGreatA35
import Derived.Test.YtpadgkkeihhneaaGreatA38
import Derived.Test.YtpadgkkeihhneaaGreatA27
import Derived.Test.YtpadgkkeihhneaaGreatA16
namespace Go.Proofs.YtpadgkkeihhneaaGreat
set_option maxRecDepth 100000
set_option linter.unusedSimpArgs false
set_option linter.unusedVariables false
open Go.ChangeShapes Go.WideShapes Go.ChangeAt Go.RowKit
set_option linter.unusedVariables false
set_option linter.unusedSimpArgs false

end Go.Proofs.YtpadgkkeihhneaaGreat
/- blocks: what it yields. -/
namespace Go.Proofs.YtpadgkkeihhneaaGreat
set_option maxRecDepth 100000
set_option linter.unusedSimpArgs false
set_option linter.unusedVariables false
open Go.ChangeShapes Go.WideShapes Go.ChangeAt Go.RowKit
set_option linter.unusedVariables false
set_option linter.unusedSimpArgs false

abbrev Bk := List UInt8 × Nat
/-- Of the blocks below B at most the journal's own, but for its first cell, and the variable tx turn. -/
structure JK (B g : Nat) (X : List Nat) (w w' : World) : Prop where
  os : w'.os = w.os
  tape : w'.tape = w.tape
  output : w'.output = w.output
  size : w.heap.size ≤ w'.heap.size
  block : ∀ k, k < B → k ≠ g → k ∉ X → w'.heap[k]? = w.heap[k]?
  cell : ∀ v, w.cell? ⟨g, 0, none⟩ = some v → w'.cell? ⟨g, 0, none⟩ = some v
theorem JK.refl (B g : Nat) (X : List Nat) (w : World) : JK B g X w w := ⟨rfl, rfl, rfl, Nat.le_refl _, fun _ _ _ _ => rfl, fun _ h => h⟩
theorem JK.trans {B g : Nat} {X : List Nat} {a b c : World} (h : JK B g X a b) (k : JK B g X b c) : JK B g X a c :=
  ⟨k.os.trans h.os, k.tape.trans h.tape, k.output.trans h.output, Nat.le_trans h.size k.size, fun i hi h1 h2 => (k.block i hi h1 h2).trans (h.block i hi h1 h2), fun v hv => k.cell v (h.cell v hv)⟩
theorem JK.below {B g : Nat} {X : List Nat} {a b : World} (h : Below B a b) (hg : g < B) : JK B g X a b := ⟨h.os, h.tape, h.output, h.size, fun k hk _ _ => h.block k hk, fun v hv => (h.cell (p := ⟨g, 0, none⟩) hg).trans hv⟩
theorem Dk.keep {w w' : World} {d : Nat} {F : List Nat} {D : DS} {gv pv : Value} (h : Dk w d F D gv pv) (hs : w.heap.size ≤ w'.heap.size) (hb : ∀ j ∈ F, w'.heap[j]? = w.heap[j]?) : Dk w' d F D gv pv := by
  have hrow : ∀ {t : TypeId} {size n : Nat} {v : Value} {cs : List Value}, Row w t size v n cs → (∀ j, v.ownBlock = some j → j ∈ F) → Row w' t size v n cs := by
    intro t size n v cs h hv
    refine ⟨h.1, ?_⟩
    rcases h.2 with hn | ⟨g, cap, cur, rfl, hb0, hgg, rest⟩
    · exact .inl hn
    · exact .inr ⟨g, cap, cur, rfl, hb0, (hb g (hv g rfl)).trans hgg, rest⟩
  exact ⟨(hb d h.inF).trans h.blk, hrow h.pages fun j hj => (h.gF j hj).1, hrow h.pend fun j hj => (h.pF j hj).1, h.inF, h.gF, h.pF, fun j hj => Nat.lt_of_lt_of_le (h.lt j hj) hs, h.ok⟩
theorem JK.hd {B g d : Nat} {X : List Nat} {w w' : World} {F : List Nat} {D : DS} (k : JK B g X w w') (h : Hd w g d F D) (hB : ∀ j ∈ F, j < B ∧ j ≠ g ∧ j ∉ X) : Hd w' g d F D := by
  obtain ⟨hc, gv, pv, hd⟩ := h
  exact ⟨k.cell _ hc, gv, pv, hd.keep k.size (fun j hj => k.block j (hB j hj).1 (hB j hj).2.1 (hB j hj).2.2)⟩
theorem JK.box {B g b : Nat} {X : List Nat} {w w' : World} (k : JK B g X w w') (h1 : b < B) (h2 : b ≠ g) (h3 : b ∉ X) {v : Value} (h : w.cell? ⟨b, 0, none⟩ = some v) : w'.cell? ⟨b, 0, none⟩ = some v :=
  (World.cell?_of_block (k.block b h1 h2 h3)).trans h
theorem blks_none (D : DS) (t f i a : Nat) (h : blk D t i a = none) : blks D t f i a = [] := by
  cases f with
  | zero => rfl
  | succ f => unfold blks; rw [h]
theorem blks_some (D : DS) (t f i a : Nat) {s : List UInt8} {n : Nat} (hf : f + i = half D) (hia : i ≤ a) (h : blk D t i a = some (s, n)) : ∃ f', f = f' + 1 ∧ blks D t f i a = (s, a + n) :: blks D t f' (i + 1) (a + n) := by
  have := blk_pos h
  obtain ⟨f', rfl⟩ : ∃ f', f = f' + 1 := ⟨f - 1, by omega⟩
  refine ⟨f', rfl, ?_⟩
  conv => lhs; unfold blks
  rw [h]
set_option maxHeartbeats 8000000 in
theorem blk1_in (n : Nat) (hn : 1 ≤ n) (l bj bt be B g d : Nat) (X : List Nat) (Fd : List Nat) (D : DS) (t : Nat) (ht : t ≤ 1099511629000) (hs : D.Sz) (hf : D.failed = false) (J Jx : List Bk → World → Prop) (W : World) (hd : Hd W g d Fd D)
    (hB : ∀ j ∈ Fd, j < B ∧ j ≠ g ∧ j ∉ X) (hb1 : bj < B ∧ bj ≠ g ∧ bj ∉ X) (hb2 : bt < B ∧ bt ≠ g ∧ bt ∉ X) (hg : g < B) (hBW : B ≤ W.heap.size) (hc1 : W.cell? ⟨bj, 0, none⟩ = some (.pointer (some ⟨g, 0, none⟩))) (hc2 : W.cell? ⟨bt, 0, none⟩ = some (.int .i64 t))
    (hJ : AbidesFrom W.heap.size J)
    (hY : ∀ pre (x : Bk) W1, J pre W1 → pre.length < (blocks D t).length → YieldAt Fence.wide (n - 1) Tryz.prog l #[sv x.1, .int .i64 x.2] W1 fun e W' =>
      (e = .returned (.bool true) ∧ J (pre ++ [x]) W' ∧ JK B g X W1 W') ∨ (e = .returned (.bool false) ∧ Jx (pre ++ [x]) W'))
    (h0 : J [] W) :
    CallsIn Fence.wide n Tryz.prog 80 #[.func (.yield l) #[] #[], .pointer (some ⟨bj, 0, none⟩), .pointer (some ⟨bt, 0, none⟩), .pointer (some ⟨be, 0, none⟩)] W fun e W' => (∃ v, e = .returned v) ∧
      ((∃ xs : List Bk, xs = blocks D t ∧ J xs W') ∨ (∃ pre, True ∧ Jx pre W')) := by
  have HY := hide hY
  have HD0 := hide hd
  have HJ := hide hJ
  have H0 := hide h0
  have HT := hide ht
  have HS := hide hs
  have HF := hide hf
  have HC1 := hide hc1
  have HC2 := hide hc2
  have HBF := hide hB
  have HB1 := hide hb1
  have HB2 := hide hb2
  have HG := hide hg
  have HBW := hide hBW
  clear hY hd hJ h0 hs hf hc1 hc2 hB hb1 hb2 hg ht
  refine callsIn_of_wp Tryz.func80 rfl trivial ?_ rfl
  simp only [Tryz.ntmps80, List.size_toArray, List.length_cons, List.length_nil, Nat.reduceAdd, Nat.reduceSub, Array.replicate_succ, Array.replicate_zero, List.push_toArray, List.append_toArray, List.nil_append, List.cons_append]
  gi_wp2_with fail
  gi_loopw [5, 6] (fun v5 v6 wr => ∃ (i a f : Nat) (pre : List Bk), v5 = .int .i64 a ∧ v6 = .int .i64 i ∧ f + i = half D ∧ i ≤ a ∧ a ≤ half D ∧ pre ++ blks D t f i a = blocks D t ∧ J pre wr ∧ JK B g X W wr) (fun _ v6 _ => half D - (intOf v6).toNat)
  case atStart => exact ⟨0, 0, half D, [], rfl, rfl, rfl, by omega, by omega, rfl, H0.out, JK.refl _ _ _ _⟩
  case round =>
    obtain ⟨i, a, f, pre, rfl, rfl, hfi, hia, hah, hpre, hJr, hkr⟩ := hrel
    have HPRE := hide hpre
    have HJR := hide hJr
    have HKR := hide hkr
    have HH := hide (And.intro hfi (And.intro hia hah))
    have hh := half_le HS.out
    have k1 := hkr.box HB1.out.1 HB1.out.2.1 HB1.out.2.2 HC1.out
    have k2 := hkr.box HB2.out.1 HB2.out.2.1 HB2.out.2.2 HC2.out
    have HDR := hide (hkr.hd HD0.out HBF.out)
    have HBC := hide (block_c g d Fd D t i a HT.out (by omega) (by omega) wr HDR.out HS.out HF.out)
    have i0 : (i : Int) ≤ 1000000 := by omega
    have a0 : (a : Int) ≤ 1000000 := by omega
    clear hpre hJr hkr hfi hia hah hh
    gi_wp2_with fail
    refine ⟨trivial, ?_⟩
    refine (callsIn_wide.2 HBC.out).mono ?_
    rintro e w1 ⟨rfl, hb⟩
    have HJ1 : Hid (J pre w1) := hide (HJ.out pre wr w1 none HJR.out (grown_of_below hb none) (by simp))
    have HK1 : Hid (JK B g X W w1) := hide (HKR.out.trans (JK.below (hb.mono (Nat.le_trans HBW.out HKR.out.size)) HG.out))
    clear hb k1 k2 HBC HJR HKR HDR
    unfold blkV
    cases hbk : blk D t i a with
    | none =>
      have HXX : Hid (pre = blocks D t) := hide (by have := HPRE.out; rw [blks_none D t f i a hbk] at this; simpa using this)
      clear hbk
      gi_wp2_with fail
      refine ⟨fun _ h => (by cases h), ?_⟩
      gi_wp2_with fail
      refine bodyPost_ret (results_none rfl _ _ _) rfl ?_
      exact ⟨⟨_, rfl⟩, .inl ⟨pre, HXX.out, HJ1.out⟩⟩
    | some x =>
      obtain ⟨s, m⟩ := x
      obtain ⟨f', hff, hbs⟩ := blks_some D t f i a HH.out.1 HH.out.2.1 hbk
      have hpos := blk_pos hbk
      have HPN : Hid ((pre ++ [(s, a + m)]) ++ blks D t f' (i + 1) (a + m) = blocks D t) := hide (by rw [← HPRE.out, hbs]; simp)
      have hlen : pre.length < (blocks D t).length := by rw [← HPRE.out, hbs]; simp
      obtain ⟨fn, tmps, assign, body, hy, hR⟩ := HY.out pre (s, a + m) w1 HJ1.out hlen
      dsimp only at hy
      have HP := hide hpos
      have hm1 : 1 ≤ (m : Int) := by omega
      have hm2 : (a : Int) + m ≤ 1000000 := by have := half_le HS.out; omega
      have hcast : ((a + m : Nat) : Int) = (a : Int) + m := by omega
      rw [hcast] at hy
      have HFF := hide hff
      clear hbk hbs hpos hlen hff hcast
      have hmb : ((m : Int) == 0) = false := by simp; omega
      gi_wp2_with fail
      refine hR.mono ?_
      rintro e W4 (⟨rfl, hJ4, hk4⟩ | ⟨rfl, hJx4⟩)
      · clear hy hR
        gi_wp2_with fail
        go_roundw
        case rel => exact ⟨i + 1, a + m, f', _, by congr 1, by go_num, by have := HH.out.1; have := HFF.out; omega, by have := HH.out.2.1; have := HP.out.1; omega, HP.out.2, HPN.out, hJ4, HK1.out.trans hk4⟩
        case measure => simp [intOf]; have := HH.out.1; have := HFF.out; omega
      · clear hy hR
        gi_wp2_with fail
        refine bodyPost_ret (results_none rfl _ _ _) rfl ?_
        exact ⟨⟨_, rfl⟩, .inr ⟨_, trivial, hJx4⟩⟩
theorem JK.of_grown {B g : Nat} {X : List Nat} {w w' : World} {row : Option Nat} (h : w.grownBy w' row) (hB : B ≤ w.heap.size) (hg : g < B) (hr : ∀ r, row = some r → B ≤ r) : JK B g X w w' :=
  ⟨h.os, h.tape, h.output, h.size, fun k hk _ _ => h.block k (by omega) (fun e => by have := hr k e.symm; omega), fun v hv => by
    have : w'.heap[g]? = w.heap[g]? := h.block g (by omega) (fun e => by have := hr g e.symm; omega)
    exact (World.cell?_of_block this).trans hv⟩
theorem keeps_touch {S : List Nat} {B : Nat} {W W' : World} (h : Touch S W W') (hS : ∀ s ∈ S, s < B ∨ ∃ cs t fr, W.heap[s]? = some (.cells cs t fr)) : KeepsFrom B W W' :=
  ⟨h.size, fun k o hk ho hc => (h.block k (Array.getElem?_eq_some_iff.1 ho).1 (fun hm => by
    rcases hS k hm with h1 | ⟨cs, t, fr, h1⟩
    · omega
    · rw [h1] at ho; injection ho with ho; subst ho; cases hc)).trans ho⟩
/-- The iterator's call. -/
theorem blocks_in (n : Nat) (g be t : Nat) (w : World) :
    CallsIn Fence.wide n Tryz.prog 47 #[.pointer (some ⟨g, 0, none⟩), .int .i64 t, .pointer (some ⟨be, 0, none⟩)] w fun e w' => e = .returned (.func (.func 80) #[] #[.pointer (some ⟨w.heap.size, 0, none⟩), .pointer (some ⟨w.heap.size + 1, 0, none⟩), .pointer (some ⟨w.heap.size + 1 + 1, 0, none⟩)]) ∧
      w' = ((w.alloc (.cells #[.pointer (some ⟨g, 0, none⟩)] 46)).alloc (.cells #[.int .i64 t] 3)).alloc (.cells #[.pointer (some ⟨be, 0, none⟩)] 93) := by
  have hmf : ∀ (fn : Fn) (first cap : Array Value) (w : World), (Instr.makeFunc fn first cap).run Tryz.prog w = .ok (.func fn first cap) w := fun _ _ _ _ => rfl
  refine callsIn_of_wp Tryz.func47 rfl trivial ?_ rfl
  simp only [Tryz.ntmps47, List.size_toArray, List.length_cons, List.length_nil, Nat.reduceAdd, Nat.reduceSub, Array.replicate_succ, Array.replicate_zero, List.push_toArray, List.append_toArray, List.nil_append, List.cons_append]
  gi_wp2_with fail
  refine bodyPost_ret (results_tmp rfl _ _ _) rfl ?_
  exact ⟨rfl, rfl⟩
end Go.Proofs.YtpadgkkeihhneaaGreat
/- Open where there is no turn. -/
namespace Go.Proofs.YtpadgkkeihhneaaGreat
set_option maxRecDepth 100000
set_option linter.unusedSimpArgs false
set_option linter.unusedVariables false
open Go.ChangeShapes Go.WideShapes Go.ChangeAt Go.RowKit
set_option linter.unusedVariables false
set_option linter.unusedSimpArgs false

/-- What Open leaves: a new journal, or an error. -/
def OpenR (w : World) (d : Nat) (F : List Nat) (r : JS × DS × Int) (e : Ending) (w' : World) : Prop :=
  ∃ F', Touch F w w' ∧ (∀ j ∈ F', j ∈ F ∨ w.heap.size ≤ j) ∧ (∀ j ∈ F', j < w'.heap.size) ∧ Disk w' d F' r.2.1 ∧
    (if r.2.2 = 0 then ∃ g rv, e = .returned (.tuple #[.pointer (some ⟨g, 0, none⟩), .int .i64 0]) ∧ Jr w' g d F' r.2.1 r.1 rv ∧ w.heap.size ≤ g ∧ (∀ j, rv.ownBlock = some j → w.heap.size ≤ j)
     else e = .returned (.tuple #[.pointer none, .int .i64 r.2.2]))
theorem Disk.lt {w : World} {d : Nat} {F : List Nat} {D : DS} (h : Disk w d F D) : ∀ j ∈ F, j < w.heap.size := by obtain ⟨gv, pv, h⟩ := h; exact h.lt
theorem Jr.new {w w' : World} {g d : Nat} {F : List Nat} {D : DS} (h : Disk w d F D) (hg : g = w.heap.size) (hb : Below w.heap.size w w') (hk : Blk w' g 89 (jcells d js0 (.slice none 0 0)).toArray) : Jr w' g d F D js0 (.slice none 0 0) :=
  ⟨hk, Strs.nil _, (fun hm => by have := h.lt g hm; omega), (fun j hj => by cases hj), fun j hj => Nat.lt_of_lt_of_le (h.lt j hj) hb.size, h.step hb⟩
set_option maxHeartbeats 2000000 in
theorem open_small (d : Nat) (F : List Nat) (D : DS) (w : World) (h : Disk w d F D) (h8 : D.pages.length < 8) : Calls Tryz.prog 18 #[.pointer (some ⟨d, 0, none⟩)] w (OpenR w d F (jOpen D)) := by
  have HP := hide (pages_c d F D w h)
  have HD := hide h
  have hr : jOpen D = (js0, D, 2) := by unfold jOpen; rw [if_pos h8]
  rw [hr]
  clear h hr
  generalize hn : D.pages.length = n at *
  clear hn
  go_enter Tryz.func18, Tryz.ntmps18
  go_wp2_with fail
  refine HP.out.mono ?_
  rintro e w1 ⟨rfl, rfl⟩
  go_wp2_with fail
  go_ret2
  exact ⟨F, Touch.refl _ _, fun j hj => .inl hj, HD.out.lt, HD.out, by rw [if_neg (show ¬ (2 : Int) = 0 by decide)]; rfl⟩
set_option maxHeartbeats 4000000 in
theorem open_failed (d : Nat) (F : List Nat) (D : DS) (w : World) (h : Disk w d F D) (hs : D.Sz) (hf : D.failed = true) : Calls Tryz.prog 18 #[.pointer (some ⟨d, 0, none⟩)] w (OpenR w d F (jOpen D)) := by
  have HP := hide (pages_c d F D w h)
  have HD := hide h
  have hr : jOpen D = (js0, D, 10) := by unfold jOpen; rw [if_neg (by have := hs.lo; omega), if_pos hf]
  have HF : Hid (∀ X g, Jr X g d F D js0 (.slice none 0 0) → Calls Tryz.prog 46 #[.pointer (some ⟨g, 0, none⟩)] X (Gives X (.int .i64 10))) := hide (fun X g hX => find_bad g d F D js0 _ X hX hf)
  have h8 := hs.lo
  rw [hr]
  clear h hr hs hf
  generalize hn : D.pages.length = n at *
  clear hn
  go_enter Tryz.func18, Tryz.ntmps18
  go_wp2_with fail
  refine HP.out.mono ?_
  rintro e w1 ⟨rfl, rfl⟩
  go_wp2_with fail
  have HB0 := hide ((below_alloc w (.cells #[.pointer (some ⟨d, 0, none⟩), .int .i64 0, .string ⟨#[]⟩, .slice none 0 0, .int .i64 0, .bool false] 89)))
  have HJ0 := hide (Jr.new HD.out rfl HB0.out (Blk.new w 89 #[.pointer (some ⟨d, 0, none⟩), .int .i64 0, .string ⟨#[]⟩, .slice none 0 0, .int .i64 0, .bool false]))
  have HB1 := hide (HB0.out.alloc HB0.out.size (.cells #[.pointer (some ⟨w.heap.size, 0, none⟩)] 46))
  have HJ1 := hide (HJ0.out.step (below_alloc _ (.cells #[.pointer (some ⟨w.heap.size, 0, none⟩)] 46)))
  refine (HF.out _ _ HJ1.out).mono ?_
  rintro e w2 ⟨rfl, hb⟩
  have HB2 := hide (HB1.out.trans (hb.mono HB1.out.size))
  clear hb
  go_wp2_with fail
  go_ret2
  exact ⟨F, Touch.below HB2.out _, fun j hj => .inl hj, (HD.out.step HB2.out).lt, HD.out.step HB2.out, by rw [if_neg (show ¬ (10 : Int) = 0 by decide)]; rfl⟩
set_option maxHeartbeats 4000000 in
theorem open_empty (d : Nat) (F : List Nat) (D : DS) (w : World) (h : Disk w d F D) (hs : D.Sz) (hf : D.failed = false) (h0 : find1 D = 0) : Calls Tryz.prog 18 #[.pointer (some ⟨d, 0, none⟩)] w (OpenR w d F (jOpen D)) := by
  have HP := hide (pages_c d F D w h)
  have HD := hide h
  have hr : jOpen D = (js0, D, 0) := by unfold jOpen; rw [if_neg (by have := hs.lo; omega), if_neg (by simp [hf]), if_pos h0]
  have HF : Hid (∀ X g, Jr X g d F D js0 (.slice none 0 0) → Calls Tryz.prog 46 #[.pointer (some ⟨g, 0, none⟩)] X fun e w' => e = .returned (.int .i64 0) ∧ Jr w' g d F D js0 (.slice none 0 0) ∧ Touch [g] X w') := hide (fun X g hX => by
    have := find_c g d F D js0 _ X hX rfl hs hf
    rw [h0] at this
    exact this)
  have h8 := hs.lo
  rw [hr]
  clear h hr hs hf h0
  generalize hn : D.pages.length = n at *
  clear hn
  go_enter Tryz.func18, Tryz.ntmps18
  go_wp2_with fail
  refine HP.out.mono ?_
  rintro e w1 ⟨rfl, rfl⟩
  go_wp2_with fail
  have HB0 := hide ((below_alloc w (.cells #[.pointer (some ⟨d, 0, none⟩), .int .i64 0, .string ⟨#[]⟩, .slice none 0 0, .int .i64 0, .bool false] 89)))
  have HJ0 := hide (Jr.new HD.out rfl HB0.out (Blk.new w 89 #[.pointer (some ⟨d, 0, none⟩), .int .i64 0, .string ⟨#[]⟩, .slice none 0 0, .int .i64 0, .bool false]))
  have HV0 := hide (Blk.new (w.alloc (.cells #[.pointer (some ⟨d, 0, none⟩), .int .i64 0, .string ⟨#[]⟩, .slice none 0 0, .int .i64 0, .bool false] 89)) 46 #[.pointer (some ⟨w.heap.size, 0, none⟩)])
  have HB1 := hide (HB0.out.alloc HB0.out.size (.cells #[.pointer (some ⟨w.heap.size, 0, none⟩)] 46))
  have HJ1 := hide (HJ0.out.step (below_alloc _ (.cells #[.pointer (some ⟨w.heap.size, 0, none⟩)] 46)))
  refine (HF.out _ _ HJ1.out).mono ?_
  rintro e w2 ⟨rfl, hj, ht⟩
  have HJ2 := hide hj
  have HV2 := hide (HV0.out.touch ht (by simp))
  have HT2 : Hid (Below w.heap.size w w2) := hide (Below.touch HB1.out ht (by simp) HB1.out.size)
  have kv : w2.cell? ⟨w.heap.size + 1, 0, none⟩ = some (.pointer (some ⟨w.heap.size, 0, none⟩)) := by have := HV2.out.cell 0; simpa using this
  have k1 : w2.cell? ⟨w.heap.size, 1, none⟩ = some (.int .i64 0) := HJ2.out.cells 1
  clear hj ht
  go_wp2_with fail
  go_ret2
  exact ⟨F, Touch.below HT2.out _, fun j hj => .inl hj, HJ2.out.lt, HJ2.out.disk, by rw [if_pos rfl]; exact ⟨w.heap.size, _, rfl, HJ2.out, Nat.le_refl _, fun j hj => by cases hj⟩⟩
end Go.Proofs.YtpadgkkeihhneaaGreat
/- A region inside the body of a range over a function, by the steps of a region outside of one. -/
namespace Go.Proofs.YtpadgkkeihhneaaGreat
set_option maxRecDepth 100000
set_option linter.unusedSimpArgs false
set_option linter.unusedVariables false
open Go.ChangeShapes Go.WideShapes Go.ChangeAt Go.RowKit
set_option linter.unusedVariables false

section
variable {P : Program} {ops : Array Oper} {Q : Exit → Act → World → Prop} {md : Region.Mode} {S : World → Prop} {l n : Nat}
theorem wpOp_round {i : Nat} {K : Act → World → Prop} {a : Act} {w : World} (hq : ¬ LetsOut Q) (hd : ∀ (j : Nat) (o : Oper) c, ops[j]? = some o → o.op ≠ .defer c) (h : wpOp P ops Q i K a w) : wpOpIn (Fence.wide.inRound l) n P ops Q i K a w := by
  unfold wpOp at h
  unfold wpOpIn
  cases ho : ops[i]? with
  | none => simpa only [ho] using h
  | some o =>
    simp only [ho] at h ⊢
    by_cases hw : Region.wanted o (yielded ops a.tmps) = true
    · rw [if_pos hw] at h ⊢
      rcases h with h | ⟨_, h⟩
      · unfold Oper.wp at h
        refine ⟨fun _ _ => trivial, ?_⟩
        rw [Oper.semAt_eq _ _ _ (fun c => hd i o c ho)]
        generalize (execOp a.eval o).run P w = r at *
        cases r with
        | ok x w' =>
          cases x with
          | value u => exact h
          | skip => exact h
          | defer d => exact h
          | enter f args => exact ⟨(fun hh => by cases hh), callsIn_wide.2 h⟩
          | row row args => 
            refine ⟨(fun hh => by cases hh), fun c cs _ => ?_⟩
            obtain ⟨v, w2, r, s⟩ := h c cs
            exact ⟨v, w2, r, stepsIn_wide.2 s⟩
          | _ => exact h.elim
        | halt x w' => cases x <;> first | exact h | exact h.elim
      · exact absurd h hq
    · rw [if_neg hw] at h ⊢
      exact ⟨fun _ _ => trivial, h⟩
theorem wpAny_round (hq : ¬ LetsOut Q) (hd : ∀ (j : Nat) (o : Oper) c, ops[j]? = some o → o.op ≠ .defer c) : ∀ (fuel : Nat) (listed : Array Bool) (a : Act) (w : World), wpAnyH P md ops Q S fuel listed a w → wpAnyIn (Fence.wide.inRound l) n P md ops Q fuel listed a w
  | 0, _, _, _, h => h
  | fuel + 1, listed, a, w, h => ⟨h.1, fun i hi => wpOpIn_mono (fun a' w' h' => wpAny_round hq hd fuel _ a' w' h'.2) (wpOp_round hq hd (h.2 i hi))⟩
theorem wpIn_region_round {id : Nat} {a : Act} {w : World} (hm : P.follows .mixedOrders = true) (hq : ¬ LetsOut Q) (hd : ∀ (j : Nat) (o : Oper) c, ops[j]? = some o → o.op ≠ .defer c) (hS : S w.drew)
    (h : S w.drew → wpAnyH P .any ops Q S ops.size (Array.replicate ops.size false) a w.drew) : (Code.region id ops true).wpIn (Fence.wide.inRound l) n P Q a w :=
  wpIn_region_any hm (wpAny_round hq hd _ _ _ _ (h hS))
end
/-- The last page behind the blocks. -/
def lastU (pre : List Bk) : Nat := (pre.getLast?.map (·.2)).getD 0
theorem lastU_snoc (pre : List Bk) (x : Bk) : lastU (pre ++ [x]) = x.2 := by unfold lastU; simp
/-- Between two rounds of Open's loop; W0: the world in front of it. -/
def OpI (W0 : World) (B g tx ex d : Nat) (J : JS) (pre : List Bk) (W : World) : Prop :=
  JK B g [tx, ex] W0 W ∧ ∃ v, Blk W tx 49 #[v] ∧ Strs W v (pre.map (·.1)) ∧ (∀ j, v.ownBlock = some j → j = ex ∨ B ≤ j) ∧ Blk W g 89 (jcells d { J with used := lastU pre } (.slice none 0 0)).toArray
theorem opI_own {W0 : World} {B g tx ex d : Nat} {J : JS} (hB : W0.heap.size = B) (hg : g < B) : OwnFrom B (OpI W0 B g tx ex d J) := by
  rintro pre W W' row ⟨hk, v, h1, h2, h3, h4⟩ hgr hr
  have ht := Touch.grown hgr
  have hcell : ∀ r, row = some r → ∀ (b : Nat) (cs : Array Value) (t : TypeId) (fr : Nat × Nat), W.heap[b]? = some (.cells cs t fr) → b ≠ r := by
    intro r e b cs t fr hb e2
    subst e2
    obtain ⟨_, o, ho, hc⟩ := hr b e
    rw [hb] at ho
    injection ho with ho
    subst ho
    cases hc
  have hmem : ∀ (b : Nat) (cs : Array Value) (t : TypeId) (fr : Nat × Nat), W.heap[b]? = some (.cells cs t fr) → b ∉ row.toList := by
    intro b cs t fr hb hm
    have e : row = some b := by simpa using hm
    exact hcell b e b cs t fr hb rfl
  refine ⟨hk.trans (JK.of_grown hgr (by have := hk.size; omega) hg (fun r e => (hr r e).1)), v, h1.touch ht (hmem _ _ _ _ h1), h2.touch ht (fun j hj => ?_), h3, h4.touch ht (hmem _ _ _ _ h4)⟩
  rcases h2 with ⟨rfl, _⟩ | ⟨b, off, cap, cur, rfl, hb, _⟩
  · cases hj
  · injection hj with hj; subst hj; exact hmem _ _ _ _ hb
end Go.Proofs.YtpadgkkeihhneaaGreat
