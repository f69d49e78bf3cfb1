/- The law's operations in memory; few; what stands between two steps. -/
import Derived.Test.YtpadgkkeihhneaaGreatC42
import Derived.Deep.Slices
import Derived.Test.YtpadgkkeihhneaaGreatC41
namespace Go.Proofs.YtpadgkkeihhneaaGreat
set_option maxRecDepth 100000
set_option linter.unusedSimpArgs false
set_option linter.unusedVariables false
section
open Go.ChangeShapes Go.WideShapes Go.ChangeAt Go.RowKit
/-! ### Between two steps -/
structure Kept (k : Nat) (D : DS) (J : JS) : Prop where
 sound : Sound D
 brk : D.failed = true → J.broken = true
 turn : J.turn ≤ 1099511627776 + k
 used : J.used ≤ half D
 recs : J.records.length ≤ 4096 + k
theorem Kept.jok {k : Nat} {D : DS} {J : JS} (h : Kept k D J) (hk : k ≤ 200) : JOk D J := by
 have h1 := h.turn
 have h2 := h.recs
 exact ⟨by omega, h.used, by omega⟩
theorem Kept.mono {k k' : Nat} {D : DS} {J : JS} (h : Kept k D J) (hk : k ≤ k') : Kept k' D J := ⟨h.sound, h.brk, by have := h.turn; omega, h.used, by have := h.recs; omega⟩
theorem find1_lt (D : DS) : find1 D < 2 ^ 40 := by
 unfold find1
 split
 ·exact hdrOf_lt _ _
 ·unfold find0
  split
  ·exact hdrOf_lt _ _
  ·show 0 < _; omega
theorem blks_lenG (D : DS) (t : Nat) : ∀ (f i a : Nat), (blks D t f i a).length ≤ f := by
 intro f
 induction f with
 | zero => intro i a; exact Nat.le_refl _
 | succ f ih =>
  intro i a
  unfold blks
  cases hb : blk D t i a with
  | none => exact Nat.zero_le _
  | some x => exact Nat.succ_le_succ (ih _ _)
theorem jFind_small (D : DS) : (jFind D).turn < 2 ^ 40 ∧ (jFind D).records.length ≤ half D := by
 unfold jFind
 split
 ·exact ⟨by show 0 < _; omega, Nat.zero_le _⟩
 ·refine ⟨find1_lt D, ?_⟩
  show (((blocks D (find1 D)).tail).map (·.1)).length ≤ _
  rw [List.length_map, List.length_tail]
  have := blks_lenG D (find1 D) (half D) 0 0
  unfold blocks
  omega
theorem jOpen_is {D D' : DS} {J : JS} (hs : Sound D) (h : jOpen D = (J, D', 0)) : J = jFind D := by
 have h8 := hs.len
 unfold jOpen at h
 rw [if_neg (by omega)] at h
 cases hf : D.failed with
 | true => rw [hf, if_pos rfl] at h; injection h with _ h; injection h with _ h; exact absurd h (by decide)
 | false =>
  rw [hf, if_neg (by simp)] at h
  by_cases h0 : find1 D = 0
  ·rw [if_pos h0] at h
   injection h with h _
   rw [← h]; unfold jFind; rw [if_pos h0]
  ·rw [if_neg h0] at h
   injection h with h _
   exact h.symm
theorem Kept.opened {D : DS} {J : JS} (hs : Sound D) (hf : D.failed = false) (h : jOpen D = (J, D, 0)) (k : Nat) : Kept k D J := by
 obtain rfl := jOpen_is hs h
 have h1 := jFind_small D
 have h2 : half D ≤ 4096 := by unfold half; have := hs.top; omega
 exact ⟨hs, (fun e => by rw [hf] at e; cases e), by omega, jFind_used, by omega⟩
theorem Kept.reop {D : DS} (hs : Sound D) (k : Nat) : Kept k (reopen D).2.1 (reopen D).1 ∧ (reopen D).2.1.pages.length = D.pages.length := by
 obtain ⟨J, D', e, h1, h2, h3, h4⟩ := reopen_any hs
 rw [e]
 exact ⟨Kept.opened h1 h2 h4 k, h3⟩
theorem Kept.wstep {w0 : World} {k : Nat} {D : DS} {J : JS} (h : Kept k D J) (hk : k ≤ 200) (o : POp) (ho : o.Ok w0) : Kept (k + 1) (wStep D J o).1 (wStep D J o).2 ∧ (wStep D J o).1.pages.length = D.pages.length := by
 have hj := h.jok hk
 have h1 := h.turn
 have h2 := h.recs
 unfold wStep
 by_cases h0 : o.kind = 0
 ·rw [if_pos h0]
  obtain ⟨a, b, c, d, e, f⟩ := sound_append h.sound h.brk hj.turn hj.recs h.used (pText o)
  exact ⟨⟨a, c, by show (jAppend D J (pText o)).2.1.turn ≤ _; omega, by show _ ≤ half (jAppend D J (pText o)).1; rw [half_eq b]; exact d, by show (jAppend D J (pText o)).2.1.records.length ≤ _; omega⟩, b⟩
 rw [if_neg h0]
 by_cases h0 : o.kind = 1
 ·rw [if_pos h0]
  obtain ⟨a, b, c, d, e, f⟩ := sound_save h.sound h.brk hj.turn hj.recs h.used (pText o)
  exact ⟨⟨a, c, by show (jSave D J (pText o)).2.1.turn ≤ _; omega, by show _ ≤ half (jSave D J (pText o)).1; rw [half_eq b]; exact d, by show (jSave D J (pText o)).2.1.records.length ≤ _; omega⟩, b⟩
 rw [if_neg h0]
 by_cases h0 : o.kind = 2
 ·rw [if_pos h0]
  exact Kept.reop h.sound _
 rw [if_neg h0]
 by_cases h0 : o.kind = 3
 ·rw [if_pos h0]
  exact ⟨⟨sound_fail h.sound _ ho.m.2, h.brk, by show J.turn ≤ _; omega, h.used, by show J.records.length ≤ _; omega⟩, rfl⟩
 rw [if_neg h0]
 by_cases h0 : o.kind = 4
 ·rw [if_pos h0]
  obtain ⟨a, b⟩ := sound_crash h.sound o.sl
  obtain ⟨c, d⟩ := Kept.reop a (k + 1)
  exact ⟨c, d.trans b⟩
 rw [if_neg h0]
 exact ⟨h.mono (by omega), rfl⟩
/-! ### Operations in memory -/
theorem POp.Ok.step {w w' : World} {x : POp} (h : x.Ok w) (k : Below w.heap.size w w') : x.Ok w' := ⟨h.n, h.m, h.fill, h.surv.step k⟩
def PopsIn (w : World) (v : Value) (l : List POp) : Prop :=
 ∃ A c, v = .slice A l.length c ∧ l.length ≤ c ∧ c ≤ maxLen ∧ (∀ x ∈ l, x.Ok w) ∧
  (0 < l.length → ∃ g o, A = some ⟨g, o, none⟩ ∧ g < w.heap.size ∧ ∀ i (h : i < l.length) j, j < 5 → w.cell? ⟨g, o + i * 5 + j, none⟩ = (l[i].cells)[j]?)
theorem PopsIn.step {w w' : World} {v : Value} {l : List POp} (h : PopsIn w v l) (k : Below w.heap.size w w') : PopsIn w' v l := by
 obtain ⟨A, c, e, h1, h2, h3, h4⟩ := h
 refine ⟨A, c, e, h1, h2, fun x hx => (h3 x hx).step k, fun h0 => ?_⟩
 obtain ⟨g, o, eA, hg, hc⟩ := h4 h0
 exact ⟨g, o, eA, Nat.lt_of_lt_of_le hg k.size, fun i hi j hj => (k.cell (p := ⟨g, o + i * 5 + j, none⟩) hg).trans (hc i hi j hj)⟩
theorem PopsIn.form {w : World} {v : Value} {l : List POp} (h : PopsIn w v l) : ∃ A m c, v = .slice A m c ∧ Hid (m = l.length) ∧ m ≤ c ∧ c ≤ 9223372036854775807 := by
 obtain ⟨A, c, e, h1, h2, _⟩ := h; exact ⟨A, _, c, e, rfl, h1, by unfold maxLen at h2; omega⟩
theorem PopsIn.all {w : World} {v : Value} {l : List POp} (h : PopsIn w v l) : ∀ x ∈ l, x.Ok w := by obtain ⟨A, c, e, _, _, h3, _⟩ := h; exact h3
theorem PopsIn.at_ {w : World} {A : Option Addr} {m c : Nat} {l : List POp} (h : PopsIn w (.slice A m c) l) (i : Nat) (hi : i < l.length) :
 ∃ g o, A = some ⟨g, o, none⟩ ∧ g < w.heap.size ∧ (l[i]).Ok w ∧ ∀ j, j < 5 → w.cell? ⟨g, o + i * 5 + j, none⟩ = (l[i].cells)[j]? := by
 obtain ⟨A', c', e, h1, h2, h3, h4⟩ := h
 obtain ⟨rfl, rfl, rfl⟩ : A = A' ∧ m = l.length ∧ c = c' := by injection e with e1 e2 e3; exact ⟨e1, e2, e3⟩
 obtain ⟨g, o, rfl, hg, hc⟩ := h4 (by omega)
 exact ⟨g, o, rfl, hg, h3 _ (List.getElem_mem hi), hc i hi⟩
instance : Inhabited POp := ⟨⟨0, 0, 0, 0, .bool false, []⟩⟩
theorem open_is {H : Type} {enc : TypeId × Value → H} {W : World} {fuel : Nat} {cs : List Value} {x : DataW H × List MemPlace} (h : DataW.trod enc Tryz.prog W 0 (fun _ => true) true fuel 40 cs = some x) : ∃ v l, cs = [v] ∧ Is W v l := by
 rcases open_ints Tryz.underlying40 Tryz.underlying3 (by kernel_rfl) h with ⟨rfl, _⟩ | ⟨a, len, cap, zs, rfl, _, hl, hm, hz, _, hcell, hwf⟩
 ·exact ⟨_, [], rfl, Is.nil W⟩
 ·simp at hz
  have hlen : (zs.take len).length = len := by rw [List.length_take]; omega
  refine ⟨_, zs.take len, rfl, some a, cap, by rw [hlen], by omega, hm, fun n hn => ?_, fun h0 => ?_⟩
  ·have := hwf n (List.mem_of_mem_take hn)
   simpa [Lit.wf, IntKind.min, IntKind.max, IntKind.signed, IntKind.bits] using this
  ·rw [hlen] at h0
   obtain ⟨e1, e2⟩ := cell_plain (hcell 0 (by omega))
   have e3 : a = ⟨a.block, a.off, none⟩ := by
    obtain ⟨b, o, s⟩ := a
    have := congrArg Addr.spot e1
    simp only [Addr.add] at this
    simp at this
    simp [this]
   refine ⟨a.block, a.off, by rw [← e3], ?_, fun j u hj => ?_⟩
   ·have : (a.add 0).block = a.block := by simp [Addr.add]
    omega
   ·rw [List.getElem?_map] at hj
    cases hq : (zs.take len)[j]? with
    | none => rw [hq] at hj; cases hj
    | some y =>
     rw [hq] at hj
     have hjl := (List.getElem?_eq_some_iff.1 hq).1
     rw [hlen] at hjl
     have hc := hcell j (by omega)
     rw [e3, add_plain] at hc
     rw [hc]
     rw [List.getElem?_take, if_pos hjl] at hq
     simp only [List.getD, hq]
     exact hj
theorem open_pop {H : Type} {enc : TypeId × Value → H} {W : World} {fuel : Nat} {cs : List Value} {x : DataW H × List MemPlace} (h : DataW.trod enc Tryz.prog W 0 (fun _ => true) true fuel 42 cs = some x) : ∃ o : POp, cs = o.cells ∧ o.Ok W := by
 obtain ⟨xs, n, _, _, hlen, hxl, hf⟩ := DataW.trod_struct Tryz.underlying42 h
 have c6 : Tryz.prog.cellsOf 42 = 5 := by kernel_rfl
 have ci : Tryz.prog.cellsOf 3 = 1 := by kernel_rfl
 have cu : Tryz.prog.cellsOf 5 = 1 := by kernel_rfl
 have cl : Tryz.prog.cellsOf 40 = 1 := by kernel_rfl
 rw [c6] at hlen
 match cs, hlen with
 | [v0, v1, v2, v3, v4], _ =>
  have hx : ∀ i, i < 5 → ∃ y, xs[i]? = some y := fun i hi => ⟨_, List.getElem?_eq_getElem (by rw [hxl]; exact hi)⟩
  have f0 : DataW.trod enc Tryz.prog W 0 (fun _ => true) true n 3 (([v0, v1, v2, v3, v4].drop 0).take (Tryz.prog.cellsOf 3)) = xs[0]? := hf 0 _ rfl
  have f1 : DataW.trod enc Tryz.prog W 0 (fun _ => true) true n 3 (([v0, v1, v2, v3, v4].drop 1).take (Tryz.prog.cellsOf 3)) = xs[1]? := hf 1 _ rfl
  have f2 : DataW.trod enc Tryz.prog W 0 (fun _ => true) true n 3 (([v0, v1, v2, v3, v4].drop 2).take (Tryz.prog.cellsOf 3)) = xs[2]? := hf 2 _ rfl
  have f3 : DataW.trod enc Tryz.prog W 0 (fun _ => true) true n 5 (([v0, v1, v2, v3, v4].drop 3).take (Tryz.prog.cellsOf 5)) = xs[3]? := hf 3 _ rfl
  have f4 : DataW.trod enc Tryz.prog W 0 (fun _ => true) true n 40 (([v0, v1, v2, v3, v4].drop 4).take (Tryz.prog.cellsOf 40)) = xs[4]? := hf 4 _ rfl
  obtain ⟨y0, e0⟩ := hx 0 (by decide)
  obtain ⟨y1, e1⟩ := hx 1 (by decide)
  obtain ⟨y2, e2⟩ := hx 2 (by decide)
  obtain ⟨y3, e3⟩ := hx 3 (by decide)
  obtain ⟨y4, e4⟩ := hx 4 (by decide)
  rw [e0] at f0
  rw [e1] at f1
  rw [e2] at f2
  rw [e3] at f3
  rw [e4] at f4
  simp only [ci, cu, cl, List.drop_zero, List.drop_succ_cons, List.take_succ_cons, List.take_zero] at f0 f1 f2 f3 f4
  obtain ⟨z0, h0, _, w0⟩ := DataW.trod_int Tryz.underlying3 f0
  obtain ⟨z1, h1, _, w1⟩ := DataW.trod_int Tryz.underlying3 f1
  obtain ⟨z2, h2, _, w2⟩ := DataW.trod_int Tryz.underlying3 f2
  obtain ⟨z3, h3, _, w3⟩ := DataW.trod_int Tryz.underlying5 f3
  obtain ⟨v, l, h4, hi⟩ := open_is f4
  have w3' : 0 ≤ z3 ∧ z3 ≤ 255 := by simpa [Lit.wf, IntKind.min, IntKind.max, IntKind.signed, IntKind.bits] using w3
  obtain ⟨m3, rfl⟩ := Int.eq_ofNat_of_zero_le w3'.1
  cases h0; cases h1; cases h2; cases h3; cases h4
  exact ⟨⟨z0, z1, z2, m3, v4, l⟩, rfl, by simpa [Lit.wf, IntKind.min, IntKind.max, IntKind.signed, IntKind.bits] using w1, by simpa [Lit.wf, IntKind.min, IntKind.max, IntKind.signed, IntKind.bits] using w2,
   by show m3 ≤ 255; omega, hi⟩
theorem open_pops {H : Type} {enc : TypeId × Value → H} {W : World} {r : Reach} {b0 : Nat} {v : Value} {d : DataW H} {p : List MemPlace}
 (hv : Value.okWide Tryz.prog W r b0 23 v) (h : DataW.Trod enc Tryz.prog W 0 (fun _ => true) true 23 v d p) : ∃ l, PopsIn W v l := by
 obtain ⟨a, n, c, rfl⟩ := okWide_slice Tryz.underlying23 hv
 obtain ⟨fuel, hf⟩ := h
 have c6 : Tryz.prog.cellsOf 42 = 5 := by kernel_rfl
 rcases Go.Deep.open_slice Tryz.underlying23 hf with ⟨hcs, _⟩ | ⟨a', len, cap, m, nn, D, Pl, hcs, _, hl, hm, hmm, _, hx⟩
 ·simp [Value.cells] at hcs
  obtain ⟨rfl, rfl, rfl⟩ := hcs
  exact ⟨[], none, 0, rfl, Nat.le_refl _, by unfold maxLen; omega, (fun x hx => by cases hx), fun h => by simp at h⟩
 ·simp [Value.cells] at hcs
  obtain ⟨rfl, rfl, rfl⟩ := hcs
  simp at hmm
  subst hmm
  obtain ⟨X, hX⟩ := Go.Deep.choose_lt (α := POp) (n := n) (p := fun i o => o.Ok W ∧ ∀ j, j < 5 → W.cell? ((a'.add (i * 5)).add j) = o.cells[j]?) (fun i hi => by
   obtain ⟨cs', h1, h2⟩ := hx i (by omega)
   rw [c6] at h1
   obtain ⟨_, hlen, hc⟩ := World.cells?_some h1
   obtain ⟨o, rfl, hok⟩ := open_pop h2
   exact ⟨o, hok, fun j hj => hc j hj⟩)
  have hll : ((List.range n).map X).length = n := by simp
  refine ⟨(List.range n).map X, some a', m, by rw [hll], by omega, hm, fun x hx => ?_, fun h0 => ?_⟩
  ·obtain ⟨i, hi, rfl⟩ := List.mem_map.1 hx
   exact (hX i (List.mem_range.1 hi)).1
  ·rw [hll] at h0
   have hc0 := (hX 0 h0).2 0 (by decide)
   rw [Nat.zero_mul] at hc0
   have hsp : a'.spot = none := by
    have e1 := (cell_plain (v := .int .i64 (X 0).kind) hc0).1
    obtain ⟨b, o, s⟩ := a'
    have := congrArg Addr.spot e1
    simp only [Addr.add] at this
    simpa using this
   obtain ⟨b, o, s⟩ := a'
   simp only at hsp
   subst hsp
   have hbl := (cell_plain (v := .int .i64 (X 0).kind) hc0).2
   refine ⟨b, o, rfl, ?_, fun i hi j hj => ?_⟩
   ·simpa [Addr.add] using hbl
   ·rw [hll] at hi
    have hh := (hX i hi).2 j hj
    rw [add_plain, add_plain] at hh
    rw [hh]
    simp
/-! ### few -/
def fewP (l : List POp) (most : Int) : Bool := l.all (fun x => decide (x.sl.length ≤ 12)) && decide ((l.length : Int) ≤ most)
theorem fewP_len {l : List POp} {k : Nat} (h : fewP l (k : Int) = true) : l.length ≤ k := by unfold fewP at h; simp at h; omega
set_option maxHeartbeats 2000000 in
theorem fewP_c (v : Value) (l : List POp) (most : Int) (w : World) (h : PopsIn w v l) :
 Calls Tryz.prog 8 #[v, .int .i64 most] w fun e w' => e = .returned (.bool (fewP l most)) ∧ w = w' := by
 obtain ⟨A, n, c, rfl, hn, hnc, hcm⟩ := h.form
 have H := hide h
 clear h
 go_enter Tryz.func8, Tryz.ntmps8
 go_wp2_with fail
 go_loop [5] (fun v5 => ∃ k : Nat, v5 = .int .i64 k ∧ k ≤ n ∧ ∀ i (hi : i < l.length), i < k → (l[i]).sl.length ≤ 12) (fun v5 => n - (intOf v5).toNat)
 case atStart => exact ⟨0, rfl, Nat.zero_le _, fun i _ hi => by omega⟩
 case round =>
  obtain ⟨k, rfl, hk, hall⟩ := hrel
  have HALL := hide hall
  clear hall
  by_cases hlt : k < n
  ·have hkl : k < l.length := by rw [← hn.out]; exact hlt
   obtain ⟨g, o, rfl, hg, hok, hc⟩ := H.out.at_ k hkl
   have q5 := hc 4 (by omega)
   simp only [POp.cells, List.getElem?_cons_zero, List.getElem?_cons_succ] at q5
   obtain ⟨As, ms, cs, hsv, hms, _, _⟩ := hok.surv.formN
   rw [hsv] at q5
   have HMS := hide hms.out
   have hki : (k : Int) < (n : Int) := by omega
   have HLT := hide hlt
   have HKL := hide hkl
   clear hc hok hsv hms hlt
   by_cases h20 : ms ≤ 12
   ·have h20i : (ms : Int) ≤ 12 := by omega
    go_wp2_with fail
    go_round
    case rel => exact ⟨k + 1, by go_num, HLT.out, fun i hi hik => by
     rcases Nat.lt_or_eq_of_le (Nat.le_of_lt_succ hik) with h1 | h1
     ·exact HALL.out i hi h1
     ·subst h1; rw [← HMS.out]; exact h20⟩
    case measure => have := HLT.out; simp [intOf]; omega
   ·have h20i : (12 : Int) < (ms : Int) := by omega
    have e : fewP l most = false := by
     unfold fewP
     rw [Bool.and_eq_false_iff]
     left
     rw [List.all_eq_false]
     exact ⟨l[k], List.getElem_mem _, by simp; have := HMS.out; omega⟩
    have HEE := hide e
    clear e h20
    go_wp2_with fail
    go_ret
    exact ⟨by rw [HEE.out]; rfl, rfl⟩
  ·obtain rfl : k = n := by omega
   have e : fewP l most = decide ((k : Int) ≤ most) := by
    unfold fewP
    rw [← hn.out]
    have : l.all (fun x => decide (x.sl.length ≤ 12)) = true := by
     rw [List.all_eq_true]
     intro x hx
     obtain ⟨i, hi, rfl⟩ := List.mem_iff_getElem.1 hx
     have := HALL.out i hi (by rw [hn.out]; exact hi)
     simpa using this
    rw [this, Bool.true_and]
   have HEE := hide e
   clear e hlt
   go_wp2_with fail
   go_ret
   exact ⟨by rw [HEE.out]; first | rfl | simp, rfl⟩
end
section
open Go.ChangeShapes Go.WideShapes Go.ChangeAt Go.RowKit
def zlw : List Value := [.pointer none, .pointer none, .slice none 0 0, .slice none 0 0, .int .i64 0, .bool false, .int .i64 0, .string ⟨#[]⟩, .slice none 0 0, .int .i64 0, .bool false]
theorem world_info : (Tryz.prog.info? 55).map (·.zero) = some (some (.agg zlw.toArray)) := by kernel_rfl
theorem world_size : (Tryz.prog.info? 55).map (·.size) = some 11 := by kernel_rfl
theorem rdisk_info : (Tryz.prog.info? 32).map (·.zero) = some (some (.agg ([.slice none 0 0, .slice none 0 0, .int .i64 0, .bool false] : List Value).toArray)) := by kernel_rfl
theorem built_w (d g : Nat) (A : Option Addr) (n c : Nat) (B : Option Addr) (m b : Nat) (fz : Int) (fl : Bool) (zt : Int) (s : List UInt8) (Ar : Option Addr) (nr cr : Nat) (zu : Int) (br : Bool) :
 Tryz.prog.built 55 [(0, .pointer (some ⟨d, 0, none⟩)), (1, .pointer (some ⟨g, 0, none⟩)), (2, .agg ([.slice A n c, .slice B m b, .int .i64 fz, .bool fl, .int .i64 zt, sv s, .slice Ar nr cr, .int .i64 zu, .bool br] : List Value).toArray)] = some ([.pointer (some ⟨d, 0, none⟩), .pointer (some ⟨g, 0, none⟩), .slice A n c, .slice B m b, .int .i64 fz, .bool fl, .int .i64 zt, sv s, .slice Ar nr cr, .int .i64 zu, .bool br] : List Value).toArray := by kernel_rfl
theorem first_m {w0 W0 w WA : World} {X M : List Nat} {b : Nat} (hb : b = w.heap.size) (hw : w0.heap.size ≤ w.heap.size) (hbel : Below w.heap.size w WA) (hlt : b < WA.heap.size) (hX : ∀ j ∈ X, j < W0.heap.size ∧ j ∉ M) (hM : ∀ j ∈ M, w0.heap.size ≤ j ∧ j < w.heap.size) (hA : Away X W0 w) :
 (∀ j ∈ M ++ [b], w0.heap.size ≤ j ∧ j < WA.heap.size) ∧ (∀ j ∈ X, j < W0.heap.size ∧ j ∉ M ++ [b]) ∧ Away X W0 WA := by
 refine ⟨fun j hj => ?_, fun j hj => ⟨(hX j hj).1, fun hm => ?_⟩, hA.next (Touch.below hbel []) (by simp) (fun j hj => (hX j hj).1)⟩
 ·rcases List.mem_append.1 hj with hj | hj
  ·exact ⟨(hM j hj).1, Nat.lt_of_lt_of_le (hM j hj).2 hbel.size⟩
  ·have e : j = b := by simpa using hj
   omega
 ·rcases List.mem_append.1 hm with hm | hm
  ·exact (hX j hj).2 hm
  ·have e : j = b := by simpa using hm
   have := (hX j hj).1
   have := hA.size
   omega
theorem mem_l2 {M : List Nat} {L0 : List (Nat × TypeId × List Value)} (h : ∀ e ∈ L0, e.1 ∈ M) (b2 b6 : Nat) (t2 t6 : TypeId) (c2 c6 : List Value) : ∀ e ∈ (b6, t6, c6) :: (b2, t2, c2) :: L0, e.1 ∈ M ++ [b2] ++ [b6] := by
 intro e he
 rcases List.mem_cons.1 he with rfl | he
 ·simp
 ·rcases List.mem_cons.1 he with rfl | he
  ·simp
  ·simp [h e he]
theorem live_new (n : Nat) (h8 : 8 ≤ n) (h4 : n ≤ 4096) : Sound (dNew n) := ⟨dNew_ok n, by simp [dNew]; omega, by simp [dNew]; omega, fun _ => rfl, Nat.zero_le _⟩
set_option maxHeartbeats 4000000 in
theorem start_c (w0 W0 : World) (X M : List Nat) (L0 : List (Nat × TypeId × List Value)) (n : Nat) (h8 : 8 ≤ n) (h4 : n ≤ 4096) (w : World) (hO : Own w0 [] L0 w) (hL : ∀ e ∈ L0, e.1 ∈ M) (hX : ∀ j ∈ X, j < W0.heap.size ∧ j ∉ M) (hM : ∀ j ∈ M, w0.heap.size ≤ j ∧ j < w.heap.size) (hA : Away X W0 w) :
 Calls Tryz.prog 22 #[.int .i64 n] w fun e W' => ∃ d g vc, e = .returned (.tuple #[.agg (wcs d g vc).toArray, .bool true]) ∧ Own w0 [] L0 W' ∧ Zs (fun W G => Jn W g d G (dNew n) js0) w0 W0 X M W' (.agg vc.toArray) (dNew n) js0 := by
 have HN : Hid ((dNew n).pages.length = n) := hide (by simp [dNew])
 have HS := hide (live_new n h8 h4)
 have HJ := hide (jOpen_good (dNew_good n h8 h4))
 have HJO : Hid (jO (dNew n) = (dNew n, js0, 0)) := hide (by unfold jO; rw [HJ.out])
 have HO0 := hide hO.size
 have HO := hide hO
 have HL := hide hL
 go_enter Tryz.func22, Tryz.ntmps22
 go_wp2_with (first
  | ((with_reducible refine at_alloc 55 ?_); refine wpList_alloc_own_n HO.out rfl 55 rfl zlw world_info ?_; intro WA b2 hb hO hbel; have H1M := first_m hb HO0.out hbel (hO.has _ (List.mem_append_right _ (List.mem_singleton.2 rfl))).1.lt hX hM hA; have HM2 := hide H1M.1; have HX2 := hide H1M.2.1; have HA2 := hide H1M.2.2; clear H1M; replace HO := hide (hO.perm (List.perm_append_singleton _ _)); clear hO hbel hb))
 clear hM hX hA hO hL
 have HO1 := hide HO.out.size
 refine (new_c n (by omega) h4 _).mono ?_
 rintro e w1 ⟨d, F, rfl, hd, hb1, hF⟩
 replace HO := hide (HO.out.step hb1)
 have HD := hide hd
 have HF : Hid (∀ j ∈ F, w0.heap.size ≤ j ∧ j ∉ X ∧ j ∉ M ++ [b2]) := hide (fun j hj => by
 have h1 := hF j hj
 have h2 := HA2.out.size
 refine ⟨?_, fun hm => ?_, fun hm => ?_⟩
 · have := HO1.out; omega
 · have := (HX2.out j hm).1; omega
 · have := (HM2.out j hm).2; omega)
 replace HM2 : Hid (∀ j ∈ M ++ [b2], w0.heap.size ≤ j ∧ j < w1.heap.size) := hide (fun j hj => ⟨(HM2.out j hj).1, Nat.lt_of_lt_of_le (HM2.out j hj).2 hb1.size⟩)
 replace HA2 := hide (HA2.out.next (Touch.below hb1 []) (by simp) (fun j hj => (HX2.out j hj).1))
 clear hd hb1 hF HO0 HO1
 go_wp2_with fail
 refine (new_r (F ++ (M ++ [b2]) ++ X) n (by omega) h4 _ (fun j hj => ?_)).mono ?_
 ·rcases List.mem_append.1 hj with hj | hj
  ·rcases List.mem_append.1 hj with hj | hj
   ·exact HD.out.lt j hj
   ·exact (HM2.out j hj).2
  ·exact Nat.lt_of_lt_of_le (HX2.out j hj).1 HA2.out.size
 rintro e w2 ⟨v2, rfl, hr, hb2⟩
 obtain ⟨A, nn, c, B, m, bb, vs, xs, rfl, hk⟩ := hr.form
 unfold rv at hr ⊢
 have HZ : Hid (Zs (fun W G => Disk W d G (dNew n)) w0 W0 X (M ++ [b2]) w2 (.agg (rjc A nn c B m bb (dNew n).fuse (dNew n).failed 0 (sv []) (.slice none 0 0) 0 false).toArray) (dNew n) js0) := hide ⟨F, HD.out.step hb2, HF.out, ⟨A, nn, c, B, m, bb, .slice none 0 0, rfl, hr, Rs.nil _ _, fun j hj => by cases hj⟩, HX2.out, fun j hj => ⟨(HM2.out j hj).1, Nat.lt_of_lt_of_le (HM2.out j hj).2 hb2.size⟩, HA2.out.next (Touch.below hb2 []) (by simp) (fun j hj => (HX2.out j hj).1), Nat.le_trans HO.out.size hb2.size⟩
 replace HO := hide (HO.out.step hb2)
 clear hr hb2 hk HD HF HM2 HX2 HA2
 unfold rjc at HZ
 generalize (dNew n).fuse = fz at HZ ⊢
 generalize (dNew n).failed = fl at HZ ⊢
 go_wp2_with (first
  | ((with_reducible refine at_alloc 32 ?_); refine wpList_alloc_own_n HO.out rfl 32 rfl [.slice none 0 0, .slice none 0 0, .int .i64 0, .bool false] rdisk_info ?_; intro WA b6 hb hO hbel; replace HZ := hide (HZ.out.push (keeps_dk d (dNew n)) hb hbel (hO.has _ (List.mem_append_right _ (List.mem_singleton.2 rfl))).1.lt); replace HO := hide (hO.perm (List.perm_append_singleton _ _)); clear hO hbel hb)
  | ((with_reducible refine at_store 32 (.tmp 6) ?_); refine wpList_store_own_t HO.out rfl 32 (.tmp 6) (.tmp 20) rfl 0 _ 0 _ _ ([.slice A nn c, .slice B m bb, .int .i64 fz, .bool fl]) ([.slice A nn c, .slice B m bb, .int .i64 fz, .bool fl]) rfl (.agg ([.slice A nn c, .slice B m bb, .int .i64 fz, .bool fl] : List Value).toArray) rfl rfl (fits_agg _) (by simp [zlw]) (splice_all rfl) (by kernel_rfl) rfl ?_; intro WA hO _ ht; replace HZ := hide (HZ.out.put (keeps_dk d (dNew n)) (by simp) ht); replace HO := hide hO; clear hO ht))
 refine (Zs.turnE (ι := Nat) (P' := fun g => fun W G => Jn W g d G (dNew n) js0) (R := fun g e => e = .returned (.tuple #[.pointer (some ⟨g, 0, none⟩), .int .i64 0])) HZ.out (fun G hG => ?_)).mono ?_
 ·refine (jopen_c d G (dNew n) _ hG (by show 0 ≤ 60000; omega) (by rw [HN.out]; omega)).mono fun e w' h => ?_
  rw [HJ.out] at h
  obtain ⟨g, he, ht⟩ := (turns_open h).1 rfl
  exact ⟨g, he, ht⟩
 rintro e w4 ⟨g, rfl, hz, hst⟩
 replace HO := hide (hst ((b6, 32, [.slice A nn c, .slice B m bb, .int .i64 fz, .bool fl]) :: (b2, 55, zlw) :: L0) (mem_l2 HL.out _ _ _ _ _ _) HO.out)
 replace HZ : Hid (Zs (fun W G => Jn W g d G (dNew n) js0) _ _ _ _ _ _ _ _) := hide hz
 clear hst hz
 go_wp2_with (first
  | ((with_reducible refine at_load 32 (.tmp 6) ?_); refine wpList_load_own HO.out rfl 32 (.tmp 6) rfl 0 _ 0 4 _ _ ([.slice A nn c, .slice B m bb, .int .i64 fz, .bool fl]) _ rfl (take_all rfl) rfl Tryz.underlying32 rfl (by kernel_rfl) ?_))
 refine (Zs.ref (r := (dNew n, js0, 0)) (keeps_jn g d (dNew n) js0) HZ.out (fun F hr hF => by rw [← HJO.out]; exact ropen_c F _ _ _ (Rj.rf hr) hF HS.out.sz (by have := HS.out.few; omega) (by have := HS.out.top; omega))).mono ?_
 rintro e w5 ⟨v', rfl, hb5, hz⟩
 replace HO := hide (HO.out.step hb5)
 (try dsimp only at hz)
 (try dsimp only)
 obtain ⟨A5, n5, c5, B5, m5, bb5, q5, rfl, Ar5, nr5, cr5, rfl, _⟩ := hz.form
 have HZ := hide hz
 clear hz hb5
 unfold rjc at HZ ⊢
 generalize (dNew n).fuse = fz5 at HZ ⊢
 generalize (dNew n).failed = fl5 at HZ ⊢
 generalize (js0.turn : Int) = zt5 at HZ ⊢
 generalize js0.state = st5 at HZ ⊢
 generalize (js0.used : Int) = zu5 at HZ ⊢
 generalize js0.broken = br5 at HZ ⊢
 go_wp2_with (first
  | ((with_reducible refine at_alloc 51 ?_); refine wpList_alloc_own_n HO.out rfl 51 rfl zjr rjr_info ?_; intro WA b10 hb hO hbel; replace HZ := hide (HZ.out.push (keeps_jn g d (dNew n) js0) hb hbel (hO.has _ (List.mem_append_right _ (List.mem_singleton.2 rfl))).1.lt); replace HO := hide (hO.perm (List.perm_append_singleton _ _)); clear hO hbel hb)
  | ((with_reducible refine at_store 51 (.tmp 10) ?_); refine wpList_store_own_t HO.out rfl 51 (.tmp 10) (.tmp 37) rfl 0 _ 0 _ _ ([.slice A5 n5 c5, .slice B5 m5 bb5, .int .i64 fz5, .bool fl5, .int .i64 zt5, sv st5, .slice Ar5 nr5 cr5, .int .i64 zu5, .bool br5]) ([.slice A5 n5 c5, .slice B5 m5 bb5, .int .i64 fz5, .bool fl5, .int .i64 zt5, sv st5, .slice Ar5 nr5 cr5, .int .i64 zu5, .bool br5]) rfl (.agg ([.slice A5 n5 c5, .slice B5 m5 bb5, .int .i64 fz5, .bool fl5, .int .i64 zt5, sv st5, .slice Ar5 nr5 cr5, .int .i64 zu5, .bool br5] : List Value).toArray) rfl rfl (fits_agg _) (by simp [zjr]) (splice_all rfl) (by kernel_rfl) rfl ?_; intro WA hO _ ht; replace HZ := hide (HZ.out.put (keeps_jn g d (dNew n) js0) (by simp) ht); replace HO := hide hO; clear hO ht)
  | ((with_reducible refine at_load 51 (.tmp 10) ?_); refine wpList_load_own HO.out rfl 51 (.tmp 10) rfl 0 _ 0 9 _ _ ([.slice A5 n5 c5, .slice B5 m5 bb5, .int .i64 fz5, .bool fl5, .int .i64 zt5, sv st5, .slice Ar5 nr5 cr5, .int .i64 zu5, .bool br5]) _ rfl (take_all rfl) rfl Tryz.underlying51 rfl (by kernel_rfl) ?_)
  | (refine wpList_build rfl 55 _ rfl ([(0, .pointer (some ⟨d, 0, none⟩)), (1, .pointer (some ⟨g, 0, none⟩)), (2, .agg ([.slice A5 n5 c5, .slice B5 m5 bb5, .int .i64 fz5, .bool fl5, .int .i64 zt5, sv st5, .slice Ar5 nr5 cr5, .int .i64 zu5, .bool br5] : List Value).toArray)]) (by first | (simp [Act.eval]; done) | (simp [Act.eval]; rfl)) ([.pointer (some ⟨d, 0, none⟩), .pointer (some ⟨g, 0, none⟩), .slice A5 n5 c5, .slice B5 m5 bb5, .int .i64 fz5, .bool fl5, .int .i64 zt5, sv st5, .slice Ar5 nr5 cr5, .int .i64 zu5, .bool br5] : List Value).toArray (built_w d g _ _ _ _ _ _ _ _ _ _ _ _ _ _ _) ?_)
  | ((with_reducible refine at_store 55 (.tmp 2) ?_); refine wpList_store_own_t HO.out rfl 55 (.tmp 2) (.tmp 42) rfl 2 _ 0 _ _ ([.pointer (some ⟨d, 0, none⟩), .pointer (some ⟨g, 0, none⟩), .slice A5 n5 c5, .slice B5 m5 bb5, .int .i64 fz5, .bool fl5, .int .i64 zt5, sv st5, .slice Ar5 nr5 cr5, .int .i64 zu5, .bool br5]) ([.pointer (some ⟨d, 0, none⟩), .pointer (some ⟨g, 0, none⟩), .slice A5 n5 c5, .slice B5 m5 bb5, .int .i64 fz5, .bool fl5, .int .i64 zt5, sv st5, .slice Ar5 nr5 cr5, .int .i64 zu5, .bool br5]) rfl (.agg ([.pointer (some ⟨d, 0, none⟩), .pointer (some ⟨g, 0, none⟩), .slice A5 n5 c5, .slice B5 m5 bb5, .int .i64 fz5, .bool fl5, .int .i64 zt5, sv st5, .slice Ar5 nr5 cr5, .int .i64 zu5, .bool br5] : List Value).toArray) rfl rfl (fits_agg _) (by simp [zlw]) (splice_all rfl) (by kernel_rfl) rfl ?_; intro WA hO _ ht; replace HZ := hide (HZ.out.put (keeps_jn g d (dNew n) js0) (by simp) ht); replace HO := hide hO; clear hO ht))
 refine bodyPost_ret (v := .tuple #[.agg ([.pointer (some ⟨d, 0, none⟩), .pointer (some ⟨g, 0, none⟩), .slice A5 n5 c5, .slice B5 m5 bb5, .int .i64 fz5, .bool fl5, .int .i64 zt5, sv st5, .slice Ar5 nr5 cr5, .int .i64 zu5, .bool br5] : List Value).toArray, .bool true]) (results_row_tmp rfl _ _ b2 55 ([.pointer (some ⟨d, 0, none⟩), .pointer (some ⟨g, 0, none⟩), .slice A5 n5 c5, .slice B5 m5 bb5, .int .i64 fz5, .bool fl5, .int .i64 zt5, sv st5, .slice Ar5 nr5 cr5, .int .i64 zu5, .bool br5] : List Value).toArray (0, 0) _ _ rfl rfl (HO.out.blk 2 rfl) Tryz.underlying55 rfl world_size) rfl ?_
 exact ⟨d, g, [.slice A5 n5 c5, .slice B5 m5 bb5, .int .i64 fz5, .bool fl5, .int .i64 zt5, sv st5, .slice Ar5 nr5 cr5, .int .i64 zu5, .bool br5], rfl, HO.out.sub (show L0.Sublist (_ :: _ :: _ :: L0) from (List.sublist_cons_self _ _).trans ((List.sublist_cons_self _ _).trans (List.sublist_cons_self _ _))), Zs.drop (N' := [b2, b6, b10]) (by simpa [List.append_assoc] using HZ.out)⟩
end
section
open List renaming getElem_toArray → qa, getElem_cons_zero → qb, getElem_cons_succ → qc, setIfInBounds_toArray → qd, set_cons_zero → qe, set_cons_succ → qf
open Go.ChangeShapes Go.WideShapes Go.ChangeAt Go.RowKit
theorem Zs.jr {g d : Nat} {E : DS} {K : JS} {w0 W0 W : World} {X M : List Nat} {v : Value} {D : DS} {J : JS} (h : Zs (fun W G => Jn W g d G E K) w0 W0 X M W v D J) : ∃ F q, Jr W g d F E K q := by
 obtain ⟨G, ⟨F, q, h1, _⟩, _⟩ := h
 exact ⟨F, q, h1⟩
theorem Zs.recs {P : World → List Nat → Prop} {w0 W0 W : World} {X M : List Nat} {D : DS} {J : JS} {A : Option Addr} {n c : Nat} {B : Option Addr} {m b : Nat} {fz : Int} {fl : Bool} {t : Int} {s : Value} {q : Value} {u : Int} {br : Bool} (h : Zs P w0 W0 X M W (.agg (rjc A n c B m b fz fl t s q u br).toArray) D J) :
 Rs W 0 q J.records ∧ (n = D.pages.length ∧ m = D.pend.length ∧ fz = D.fuse ∧ fl = D.failed) ∧ t = (J.turn : Int) ∧ s = sv J.state ∧ u = (J.used : Int) ∧ br = J.broken := by
 obtain ⟨G, h1, h2, h3, h4, h5, h6, h7⟩ := h
 have hrf := h3.rf
 obtain ⟨A0, n0, c0, B0, m0, b0, rw_, hv, _, hrs, hap⟩ := h3
 have hv2 := congrArg (fun x : Value => match x with | .agg a => a.toList | _ => []) hv
 simp only [rjc, List.cons.injEq, Value.slice.injEq, Value.int.injEq, Value.bool.injEq, true_and, and_true] at hv2
 obtain ⟨⟨rfl, rfl, rfl⟩, ⟨rfl, rfl, rfl⟩, rfl, rfl, rfl, rfl, rfl, rfl, rfl⟩ := hv2
 refine ⟨hrs, ⟨?_, ?_, rfl, rfl⟩, rfl, rfl, rfl, rfl⟩
 ·obtain ⟨dv, pv, vs, xs, he, hk⟩ := hrf
  unfold rv at he
  injection he with he
  have h1 := congrArg (fun a : Array Value => a[0]?) he
  simp at h1
  subst h1
  have := hk.dur.2
  rcases this with ⟨e, h0⟩ | ⟨g, cap, cur, e, _⟩ <;> (injection e with e1 e2 e3; try omega)
 ·obtain ⟨dv, pv, vs, xs, he, hk⟩ := hrf
  unfold rv at he
  injection he with he
  have h1 := congrArg (fun a : Array Value => a[1]?) he
  simp at h1
  subst h1
  have := hk.pend.2
  rcases this with ⟨e, h0⟩ | ⟨g, cap, cur, e, _⟩ <;> (injection e with e1 e2 e3; try omega)
set_option maxHeartbeats 16000000 in
theorem wsame_c (w0 W0 : World) (X : List Nat) (x d g : Nat) (D : DS) (J : JS) (W : World) (h : Ww w0 W0 X x d g W D J) (hs : Sound D) (hj : JOk D J) : Calls Tryz.prog 20 #[.pointer (some ⟨x, 0, none⟩)] W fun e W' => e = .returned (.bool true) ∧ Ww w0 W0 X x d g W' D J := by
 obtain ⟨A, n, c, B, m, bb, Ar, nr, cr, hO, hZ⟩ := h
 obtain ⟨hrs, ⟨hn, hm, hfz, hfl⟩, ht, hst, hu, hbr⟩ := hZ.recs
 unfold wcs rjc at hO
 unfold rjc at hZ
 obtain ⟨fz, hz1⟩ : ∃ z, D.fuse = z := ⟨_, rfl⟩
 obtain ⟨fl, hz2⟩ : ∃ z, D.failed = z := ⟨_, rfl⟩
 obtain ⟨zt, hz3⟩ : ∃ z : Int, (J.turn : Int) = z := ⟨_, rfl⟩
 obtain ⟨sS, hz4⟩ : ∃ S : ByteArray, sv J.state = .string S := ⟨_, rfl⟩
 obtain ⟨zu, hz5⟩ : ∃ z : Int, (J.used : Int) = z := ⟨_, rfl⟩
 obtain ⟨br, hz6⟩ : ∃ z, J.broken = z := ⟨_, rfl⟩
 rw [hz1, hz2, hz3, hz4, hz5, hz6] at hO hZ
 have HA := hide (And.intro hz3 (And.intro hz4 hz6))
 have HO := hide hO
 have HZ := hide hZ
 have HS := hide hs
 have HJ := hide hj
 obtain ⟨_, _, _, hrv, hnr, _, _⟩ := hrs.formN
 have HNR : Hid (nr = J.records.length) := by injection hrv with e1 e2 e3; rw [e2]; exact hnr
 have HLE := hj.recs
 have HLEN := hide HLE
 clear hO hZ hs hj hrs hn hm hfz hfl ht hst hu hbr hz1 hz2 hz3 hz4 hz5 hz6 hrv hnr HLE
 go_enter Tryz.func20, Tryz.ntmps20
 have kx := HO.out.cells 0 rfl
 go_wp2_with fail
 obtain ⟨Fj, qj, hjr⟩ := HZ.out.jr
 refine (records_c g d Fj D J qj _ hjr (by have := HLEN.out; omega)).mono ?_
 rintro e w3 ⟨v3, rfl, hsl, _, hb3⟩
 obtain ⟨Al, ml, cl, rfl, hml, _, _⟩ := hsl.formN
 have HML : Hid (ml = J.records.length) := hml
 have HL := hide hsl
 replace HO := hide (HO.out.step hb3)
 replace HZ := hide (HZ.out.step (keeps_jn g d D J) hb3)
 clear hjr hsl hml hb3 kx
 have hd1 : ((ml : Int) != (nr : Int)) = false := by simp; have := HML.out; have := HNR.out; omega
 have ml9 : ml ≤ 500000 := by have := HML.out; have := HLEN.out; omega
 have kx := HO.out.cells 0 rfl
 go_wp2_with fail
 refine wp_region_held_drew (S := fun W => (∀ j, W.cell? ⟨x, j, none⟩ = ([.pointer (some ⟨d, 0, none⟩), .pointer (some ⟨g, 0, none⟩), .slice A n c, .slice B m bb, .int .i64 fz, .bool fl, .int .i64 zt, .string sS, .slice Ar nr cr, .int .i64 zu, .bool br] : List Value)[j]?) ∧ True) (by kernel_rfl) (⟨HO.out.drew.cells 0 rfl, trivial⟩) (fun hS0 => ?_)
 replace HO := hide HO.out.drew
 replace HZ := hide (HZ.out.step (keeps_jn g d D J) (below_drew _))
 replace HL := hide (HL.out.step (below_drew _))
 refine tk 0 ?_
 refine tk 1 ?_
 refine tk 2 ?_
 refine tk 3 ?_
 refine tk 5 ?_
 refine tk 6 ?_
 refine tk 7 ?_
 refine tk 8 ?_
 refine tk 9 ?_
 refine tr1 4 fun K hK => ?_
 go_simp
 obtain ⟨Fj, qj, hjr⟩ := HZ.out.jr
 refine (turn_c g d Fj D J qj _ hjr).mono ?_
 rintro e wq ⟨rfl, rfl⟩
 clear hjr
 rw [HA.out.1]
 refine hK.out _ _ (⟨HO.out.cells 0 rfl, trivial⟩) (fun hS9 => ?_)
 clear hK K
 try simp only [Act.put, qa, qb, qc, qd, qe, qf]
 refine tk 10 ?_
 refine tk 11 ?_
 refine tk 12 ?_
 refine tk 13 ?_
 refine tk 14 ?_
 refine tk 15 ?_
 refine tk 17 ?_
 refine tk 18 ?_
 refine tk 19 ?_
 refine tk 20 ?_
 refine tk 21 ?_
 refine tr1 16 fun K hK => ?_
 go_simp
 obtain ⟨Fj, qj, hjr⟩ := HZ.out.jr
 refine (state_c g d Fj D J qj _ hjr).mono ?_
 rintro e wq ⟨rfl, rfl⟩
 clear hjr
 rw [HA.out.2.1]
 refine hK.out _ _ (⟨HO.out.cells 0 rfl, trivial⟩) (fun hS21 => ?_)
 clear hK K
 try simp only [Act.put, qa, qb, qc, qd, qe, qf]
 refine tk 22 ?_
 refine tk 23 ?_
 refine tk 24 ?_
 refine tk 25 ?_
 refine tk 26 ?_
 refine tk 27 ?_
 refine tk 28 ?_
 refine tk 29 ?_
 refine tk 30 ?_
 refine tk 31 ?_
 refine tk 32 ?_
 refine tk 33 ?_
 refine tk 34 ?_
 refine tk 35 ?_
 refine tk 36 ?_
 refine tk 37 ?_
 refine tk 38 ?_
 refine tk 39 ?_
 refine tk 41 ?_
 refine tk 42 ?_
 refine tk 43 ?_
 refine tk 44 ?_
 refine tr1 40 fun K hK => ?_
 go_simp
 obtain ⟨Fj, qj, hjr⟩ := HZ.out.jr
 refine (free_c g d Fj D J qj _ hjr HS.out.sz HJ.out).mono ?_
 rintro e wq ⟨rfl, hbq⟩
 clear hjr
 replace HO := hide (HO.out.step hbq)
 replace HZ := hide (HZ.out.step (keeps_jn g d D J) hbq)
 replace HL := hide (HL.out.step hbq)
 clear hbq
 refine hK.out _ _ (⟨HO.out.cells 0 rfl, trivial⟩) (fun hS44 => ?_)
 clear hK K
 try simp only [Act.put, qa, qb, qc, qd, qe, qf]
 refine tr1 45 fun K hK => ?_
 go_simp
 refine (Zs.look (keeps_jn g d D J) HZ.out (fun F hr => rfree_c F _ D J _ hr HS.out.sz HJ.out) (fun e w' h => h.2)).mono ?_
 rintro e w5 ⟨⟨rfl, hb5⟩, hz⟩
 replace HO := hide (HO.out.step hb5)
 replace HZ := hide hz
 replace HL := hide (HL.out.step hb5)
 clear hb5 hz
 refine hK.out _ _ (⟨HO.out.cells 0 rfl, trivial⟩) (fun hS45 => ?_)
 clear hK K
 try simp only [Act.put, qa, qb, qc, qd, qe, qf]
 refine tk 46 ?_
 refine tk 47 ?_
 refine tk 48 ?_
 refine tk 49 ?_
 refine tk 50 ?_
 refine tk 51 ?_
 refine tk 52 ?_
 refine tk 54 ?_
 refine tk 55 ?_
 refine tk 56 ?_
 refine tk 57 ?_
 refine tk 58 ?_
 refine tr1 53 fun K hK => ?_
 go_simp
 obtain ⟨Fj, qj, hjr⟩ := HZ.out.jr
 refine (broken_c g d Fj D J qj _ hjr).mono ?_
 rintro e wq ⟨rfl, rfl⟩
 clear hjr
 rw [HA.out.2.2]
 refine hK.out _ _ (⟨HO.out.cells 0 rfl, trivial⟩) (fun hS58 => ?_)
 clear hK K
 try simp only [Act.put, qa, qb, qc, qd, qe, qf]
 refine tk 59 ?_
 refine tk 60 ?_
 refine wpAnyH_done (by kernel_rfl) ?_ _
 clear hS0 kx
 go_wp2_with fail
 go_loopw [73] (fun v73 wr => ∃ k : Nat, v73 = .int .i64 k ∧ k ≤ ml ∧ Own w0 [] [(x, 55, [.pointer (some ⟨d, 0, none⟩), .pointer (some ⟨g, 0, none⟩), .slice A n c, .slice B m bb, .int .i64 fz, .bool fl, .int .i64 zt, .string sS, .slice Ar nr cr, .int .i64 zu, .bool br])] wr ∧ Zs (fun W G => Jn W g d G D J) w0 W0 X [x] wr (.agg ([.slice A n c, .slice B m bb, .int .i64 fz, .bool fl, .int .i64 zt, .string sS, .slice Ar nr cr, .int .i64 zu, .bool br] : List Value).toArray) D J ∧ Sl wr (.slice Al ml cl) J.records) (fun v73 _ => ml - (intOf v73).toNat)
 case atStart => exact ⟨0, rfl, Nat.zero_le _, HO.out, HZ.out, HL.out⟩
 case round =>
  clear HO HZ HL hd1
  obtain ⟨k, rfl, hk, hO, hZ, hL⟩ := hrel
  have HO := hide hO
  have HZ := hide hZ
  have HL := hide hL
  by_cases hlt : k < ml
  ·have hkr : k < nr := by have := HML.out; have := HNR.out; omega
   obtain ⟨gl, ol, rfl, _, hcl⟩ := hL.at_ k (by rw [← HML.out]; exact hlt)
   obtain ⟨gr, or_, rfl, _, hcr⟩ := hZ.recs.1.sl.at_ k (by rw [← HML.out]; exact hlt)
   obtain ⟨Y, hy⟩ : ∃ Y : ByteArray, sv (J.records.getD k []) = .string Y := ⟨_, rfl⟩
   rw [hy] at hcl hcr
   clear hO hZ hL hy
   go_wp2_with fail
   refine wp_region_held_drew (S := fun W => (∀ j, W.cell? ⟨x, j, none⟩ = ([.pointer (some ⟨d, 0, none⟩), .pointer (some ⟨g, 0, none⟩), .slice A n c, .slice B m bb, .int .i64 fz, .bool fl, .int .i64 zt, .string sS, .slice (some ⟨gr, or_, none⟩) nr cr, .int .i64 zu, .bool br] : List Value)[j]?) ∧ W.cell? ⟨gl, ol + k, none⟩ = some (.string Y) ∧ W.cell? ⟨gr, or_ + k, none⟩ = some (.string Y)) (by kernel_rfl) (⟨HO.out.drew.cells 0 rfl, hcl, hcr⟩) (fun hS0 => ?_)
   refine tk 0 ?_
   refine tk 1 ?_
   refine tk 2 ?_
   refine tk 3 ?_
   refine tk 4 ?_
   refine tk 5 ?_
   refine tk 6 ?_
   refine tk 7 ?_
   refine tk 8 ?_
   refine tk 9 ?_
   refine tk 10 ?_
   refine tk 11 ?_
   refine tk 12 ?_
   refine wpAnyH_done (by kernel_rfl) ?_ _
   clear hS0
   replace HO := hide HO.out.drew
   replace HZ := hide (HZ.out.step (keeps_jn g d D J) (below_drew _))
   replace HL := hide (HL.out.step (below_drew _))
   go_wp2_with fail
   go_roundw
   case rel => exact ⟨k + 1, by go_num, by omega, HO.out, HZ.out, HL.out⟩
   case measure => (simp [intOf]; omega)
  ·obtain rfl : k = ml := by omega
   go_wp2_with fail
   go_ret
   exact ⟨rfl, Ww.of HO.out HZ.out⟩
theorem Zs.pages {P : World → List Nat → Prop} {w0 W0 W : World} {X M : List Nat} {v : Value} {D : DS} {J : JS} {d : Nat} {E : DS} (hd : ∀ W G, P W G → ∃ F, Disk W d F E) (h : Zs P w0 W0 X M W v D J) : Calls Tryz.prog 33 #[.pointer (some ⟨d, 0, none⟩)] W fun e w' => e = .returned (.int .i64 E.pages.length) ∧ W = w' := by
 obtain ⟨G, h1, _⟩ := h
 obtain ⟨F, hF⟩ := hd W G h1
 exact pages_c d F E W hF
theorem Zs.pending {P : World → List Nat → Prop} {w0 W0 W : World} {X M : List Nat} {v : Value} {D : DS} {J : JS} {d : Nat} {E : DS} (hd : ∀ W G, P W G → ∃ F, Disk W d F E) (h : Zs P w0 W0 X M W v D J) : Calls Tryz.prog 60 #[.pointer (some ⟨d, 0, none⟩)] W fun e w' => e = .returned (.int .i64 E.pend.length) ∧ W = w' := by
 obtain ⟨G, h1, _⟩ := h
 obtain ⟨F, hF⟩ := hd W G h1
 exact pending_c d F E W hF
theorem Zs.read {P : World → List Nat → Prop} {w0 W0 W : World} {X M : List Nat} {v : Value} {D : DS} {J : JS} {d : Nat} {E : DS} (hd : ∀ W G, P W G → ∃ F, Disk W d F E) (h : Zs P w0 W0 X M W v D J) (p : Int) : Calls Tryz.prog 34 #[.pointer (some ⟨d, 0, none⟩), .int .i64 p] W (ReadR W E p) := by
 obtain ⟨G, h1, _⟩ := h
 obtain ⟨F, hF⟩ := hd W G h1
 exact read_c d F E p W hF
set_option maxHeartbeats 16000000 in
theorem wbytes_c (w0 W0 : World) (X : List Nat) (x d g : Nat) (D : DS) (J : JS) (W : World) (h : Ww w0 W0 X x d g W D J) (hs : Sound D) : Calls Tryz.prog 21 #[.pointer (some ⟨x, 0, none⟩)] W fun e W' => e = .returned (.bool true) ∧ Ww w0 W0 X x d g W' D J := by
 obtain ⟨A, n, c, B, m, bb, Ar, nr, cr, hO, hZ⟩ := h
 obtain ⟨hrs, ⟨hn, hm, hfz, hfl⟩, ht, hst, hu, hbr⟩ := hZ.recs
 unfold wcs rjc at hO
 unfold rjc at hZ
 cases hfd : D.failed with
 | true =>
  rw [hfd] at hO hZ
  have HFD := hide hfd
  generalize D.fuse = fz at hO hZ
  generalize (J.turn : Int) = zt at hO hZ
  obtain ⟨sS, hz4⟩ : ∃ S : ByteArray, sv J.state = .string S := ⟨_, rfl⟩
  rw [hz4] at hO hZ
  generalize (J.used : Int) = zu at hO hZ
  generalize J.broken = br at hO hZ
  have HO := hide hO
  have HZ := hide hZ
  clear hO hZ hs hrs hn hm hfz hfl ht hst hu hbr hz4 hfd
  go_enter Tryz.func21, Tryz.ntmps21
  have kx := HO.out.cells 0 rfl
  go_wp2_with fail
  refine (Zs.failed keeps_disk HZ.out).mono ?_
  rintro e wq ⟨rfl, rfl⟩
  rw [HFD.out]
  go_wp2_with fail
  go_ret
  exact ⟨rfl, Ww.of HO.out HZ.out⟩
 | false =>
  rw [hfd] at hO hZ
  have HFD := hide hfd
  have HM := hide hm
  generalize D.fuse = fz at hO hZ
  generalize (J.turn : Int) = zt at hO hZ
  obtain ⟨sS, hz4⟩ : ∃ S : ByteArray, sv J.state = .string S := ⟨_, rfl⟩
  rw [hz4] at hO hZ
  generalize (J.used : Int) = zu at hO hZ
  generalize J.broken = br at hO hZ
  have HO := hide hO
  have HZ := hide hZ
  have HS := hide hs
  have hp9 := hs.top
  clear hO hZ hs hrs hn hm hfz hfl ht hst hu hbr hz4 hfd
  obtain ⟨pl, hpl⟩ : ∃ z, D.pages.length = z := ⟨_, rfl⟩
  have HPL := hide hpl
  rw [hpl] at hp9
  clear hpl
  go_enter Tryz.func21, Tryz.ntmps21
  have kx := HO.out.cells 0 rfl
  go_wp2_with fail
  clear kx
  go_loopw [3] (fun v3 wr => ∃ k : Nat, v3 = .int .i64 k ∧ k ≤ pl ∧ Own w0 [] [(x, 55, [.pointer (some ⟨d, 0, none⟩), .pointer (some ⟨g, 0, none⟩), .slice A n c, .slice B m bb, .int .i64 fz, .bool false, .int .i64 zt, .string sS, .slice Ar nr cr, .int .i64 zu, .bool br])] wr ∧ Zs (fun W G => Jn W g d G D J) w0 W0 X [x] wr (.agg ([.slice A n c, .slice B m bb, .int .i64 fz, .bool false, .int .i64 zt, .string sS, .slice Ar nr cr, .int .i64 zu, .bool br] : List Value).toArray) D J) (fun v3 _ => pl - (intOf v3).toNat)
  case atStart => exact ⟨0, rfl, Nat.zero_le _, HO.out, HZ.out⟩
  case round =>
   clear HO HZ
   obtain ⟨k, rfl, hk, hO, hZ⟩ := hrel
   have HO := hide hO
   have HZ := hide hZ
   clear hO hZ
   have kx := HO.out.cells 0 rfl
   go_wp2_with fail
   refine (Zs.pages keeps_disk HZ.out).mono ?_
   rintro e wq ⟨rfl, rfl⟩
   rw [HPL.out]
   by_cases hlt : k < pl
   ·go_wp2_with fail
    refine (Zs.read keeps_disk HZ.out (k : Int)).mono ?_
    rintro e w6 ⟨v6, rfl, hbs6, _, hb6⟩
    rw [dRead_ok HFD.out k (by rw [HPL.out]; exact hlt)] at hbs6 ⊢
    obtain ⟨A6, m6, c6, rfl, _, _, _⟩ := hbs6.formN
    have H6 := hide hbs6
    replace HO := hide (HO.out.step hb6)
    replace HZ := hide (HZ.out.step (keeps_jn g d D J) hb6)
    clear hbs6 hb6 kx
    dsimp only at H6 ⊢
    go_wp2_with (first
     | ((with_reducible refine at_load 32 (.tmp 41) ?_); refine wpList_load_own HO.out rfl 32 (.tmp 41) rfl 0 _ 2 4 _ _ ([.slice A n c, .slice B m bb, .int .i64 fz, .bool false]) _ rfl rfl rfl Tryz.underlying32 rfl (by kernel_rfl) ?_))
    refine (Zs.look (keeps_jn g d D J) HZ.out (Q := RGot _ (content D k, 0)) (fun F hr => by
     have := rread_c F _ D (k : Int) _ (Rj.rf hr) (by have := HS.out.few; omega) (by have := HS.out.top; omega)
     rwa [dRead_ok HFD.out k (by rw [HPL.out]; exact hlt)] at this) (fun e w' h => by obtain ⟨v, _, _, hb⟩ := h; exact hb)).mono ?_
    rintro e w7 ⟨⟨v7, rfl, ho7, hb7⟩, hz⟩
    obtain ⟨A7, m7, c7, rfl, _, _, _⟩ := ho7.formN
    have H7 := hide ho7.bs
    replace H6 := hide (H6.out.step hb7)
    replace HO := hide (HO.out.step hb7)
    replace HZ := hide hz
    clear ho7 hb7 hz
    have s6 := run_string_bs H6.out
    have s7 := run_string_bs H7.out
    generalize content D k = cb at H6 H7 s6 s7
    go_wp2_with fail
    go_roundw
    case rel => exact ⟨k + 1, by go_num, by omega, HO.out, HZ.out⟩
    case measure => (simp [intOf]; omega)
   ·obtain rfl : k = pl := by omega
    go_wp2_with fail
    refine wp_region_held_drew (S := fun W => (∀ j, W.cell? ⟨x, j, none⟩ = ([.pointer (some ⟨d, 0, none⟩), .pointer (some ⟨g, 0, none⟩), .slice A n c, .slice B m bb, .int .i64 fz, .bool false, .int .i64 zt, .string sS, .slice Ar nr cr, .int .i64 zu, .bool br] : List Value)[j]?)) (by kernel_rfl) (HO.out.drew.cells 0 rfl) (fun hS0 => ?_)
    replace HO := hide HO.out.drew
    replace HZ := hide (HZ.out.step (keeps_jn g d D J) (below_drew _))
    refine tk 0 ?_
    refine tk 1 ?_
    refine tk 2 ?_
    refine tk 3 ?_
    refine tk 5 ?_
    refine tk 6 ?_
    refine tk 7 ?_
    refine tk 8 ?_
    refine tk 9 ?_
    refine tk 10 ?_
    refine tk 11 ?_
    refine tr1 4 fun K hK => ?_
    go_simp
    refine (Zs.pending keeps_disk HZ.out).mono ?_
    rintro e wq ⟨rfl, rfl⟩
    rw [← HM.out]
    refine hK.out _ _ (HO.out.cells 0 rfl) (fun hS11 => ?_)
    clear hK K
    try simp only [Act.put, qa, qb, qc, qd, qe, qf]
    refine tk 12 ?_
    refine tk 13 ?_
    refine wpAnyH_done (by kernel_rfl) ?_ _
    clear hS0
    go_wp2_with fail
    go_ret
    exact ⟨rfl, Ww.of HO.out HZ.out⟩
end
section
open Go.ChangeShapes Go.WideShapes Go.ChangeAt Go.RowKit
/-- Two journals, alike, on one disk. -/
def Twin (g g2 d : Nat) (D : DS) (J : JS) (W : World) (G : List Nat) : Prop := ∃ F q q2, Jr W g d F D J q ∧ Jr W g2 d F D J q2 ∧ (∀ j ∈ F, j ∈ G) ∧ (∀ j, q.ownBlock = some j → j ∈ G) ∧ (∀ j, q2.ownBlock = some j → j ∈ G) ∧ g ∈ G ∧ g2 ∈ G ∧ ∀ j ∈ G, j < W.heap.size
theorem keeps_twin (g g2 d : Nat) (D : DS) (J : JS) : Keeps (Twin g g2 d D J) := by
 refine ⟨fun W W' S G h k hS => ?_, fun W G h => ?_⟩
 ·obtain ⟨F, q, q2, h1, h2, h3, h4, h5, h6, h7, h8⟩ := h
  exact ⟨F, q, q2, h1.touch k (hS g h6) (fun j hj => hS j (h4 j hj)) (fun j hj => hS j (h3 j hj)), h2.touch k (hS g2 h7) (fun j hj => hS j (h5 j hj)) (fun j hj => hS j (h3 j hj)), h3, h4, h5, h6, h7, fun j hj => Nat.lt_of_lt_of_le (h8 j hj) k.size⟩
 ·obtain ⟨F, q, q2, h1, h2, h3, h4, h5, h6, h7, h8⟩ := h
  exact h8
theorem twin_disk {g g2 d : Nat} {D : DS} {J : JS} : ∀ W G, Twin g g2 d D J W G → ∃ F, Disk W d F D := fun W G h => by obtain ⟨F, q, q2, h1, _⟩ := h; exact ⟨F, h1.disk⟩
/-- Another Open of a disk that it leaves alone. -/
theorem twin_open {g d : Nat} {G : List Nat} {D : DS} {J : JS} {W : World} (h : Jn W g d G D J) (ho : jOpen D = (J, D, 0)) (hp : D.pend.length ≤ 60000) (h5 : D.pages.length ≤ 5000) :
 Calls Tryz.prog 18 #[.pointer (some ⟨d, 0, none⟩)] W fun e w' => ∃ g2, e = .returned (.tuple #[.pointer (some ⟨g2, 0, none⟩), .int .i64 0]) ∧ Turns (Twin g g2 d D J) W G w' := by
 obtain ⟨F, q, h1, h2, h3, h4, h5'⟩ := h
 refine (jopen_c d F D W h1.disk hp h5).mono fun e w' hr => ?_
 rw [ho] at hr
 obtain ⟨F', ht, hF', hlt', hd', hr⟩ := hr
 dsimp only at hd' hr
 rw [if_pos rfl] at hr
 obtain ⟨g2, rv, he, hj2, hg2, hrv⟩ := hr
 refine ⟨g2, he, g2 :: (rv.ownBlock.toList ++ (F' ++ G)), ⟨F', q, rv, ?_, hj2, fun j hj => by simp [hj], fun j hj => by simp [h3 j hj], fun j hj => by simp [hj], by simp [h4], by simp, fun j hj => ?_⟩, ht.mono (fun s hs => .inl (h2 s hs)), fun j hj => ?_⟩
 ·have hg1 : g < W.heap.size := h1.blk.lt
  have hown : ∀ j, q.ownBlock = some j → j < W.heap.size := fun j hj => h1.recs.lt j hj
  refine ⟨h1.blk.touch ht h1.gF, h1.recs.touch ht (fun j hj => (h1.rF j hj).1), fun hm => ?_, fun j hj => ⟨fun hm => ?_, (h1.rF j hj).2⟩, hlt', hd'⟩
  ·rcases hF' g hm with e | e
   ·exact h1.gF e
   ·omega
  ·rcases hF' j hm with e | e
   ·exact (h1.rF j hj).1 e
   ·have := hown j hj; omega
 ·rcases List.mem_cons.1 hj with rfl | hj
  ·exact hj2.blk.lt
  ·rcases List.mem_append.1 hj with hj | hj
   ·exact hj2.recs.lt j (by simpa using hj)
   ·rcases List.mem_append.1 hj with hj | hj
    ·exact hlt' j hj
    ·exact Nat.lt_of_lt_of_le (h5' j hj) ht.size
 ·rcases List.mem_cons.1 hj with rfl | hj
  ·exact .inr hg2
  ·rcases List.mem_append.1 hj with hj | hj
   ·exact .inr (hrv j (by simpa using hj))
   ·rcases List.mem_append.1 hj with hj | hj
    ·rcases hF' j hj with e | e
     ·exact .inl (h2 j e)
     ·exact .inr e
    ·exact .inl hj
theorem grown_touchG {w w' : World} {v : Value} (h : w.grownBy w' v.ownBlock) : Touch v.ownBlock.toList w w' :=
 ⟨h.os, h.tape, h.output, h.size, fun k hk hne => h.block k hk (fun e => hne (by rw [← e]; simp))⟩
section
variable {P : World → List Nat → Prop} {w0 W0 W W' : World} {X M : List Nat} {v : Value} {D : DS} {J : JS}
/-- A local slice grew. -/
theorem Zs.grown (hP : Keeps P) (h : Zs P w0 W0 X M W v D J) {u u' : Value} (hg : W.grownBy W' u.ownBlock) (hu : ∀ j, u.ownBlock = some j → j ∈ M) (hu' : u'.ownBlock = u.ownBlock ∨ u'.ownBlock = some W.heap.size) (hlt : ∀ j, u'.ownBlock = some j → j < W'.heap.size) :
 ∃ M', Zs P w0 W0 X M' W' v D J ∧ (∀ j ∈ M, j ∈ M') ∧ (∀ j, u'.ownBlock = some j → j ∈ M') := by
 have k := grown_touchG hg
 have hsub : ∀ s ∈ u.ownBlock.toList, s ∈ M := fun s hs => hu s (by simpa using hs)
 obtain ⟨G, h1, h2, h3, h4, h5, h6, h7⟩ := h
 have hX := h6.size
 have hGl := hP.lt _ _ h1
 have k2 : Touch (G ++ M ++ X) W W' := k.mono (fun s hs => .inl (by simp [hsub s hs]))
 have hP' : P W' G := hP.touch _ _ _ _ h1 k (fun j hj hm => (h2 j hj).2.2 (hsub j hm))
 have hA' : Away X W0 W' := h6.next k (fun j hj _ hm => (h4 j hj).2 (hsub j hm)) (fun j hj => (h4 j hj).1)
 rcases hu' with e | e
 ·exact ⟨M, ⟨G, hP', h2, h3.touch k2 (fun j hj => .inl hj), h4, fun j hj => ⟨(h5 j hj).1, Nat.lt_of_lt_of_le (h5 j hj).2 k.size⟩, hA', Nat.le_trans h7 k.size⟩, fun j hj => hj, fun j hj => hu j (by rw [← e]; exact hj)⟩
 ·have hb := hlt _ e
  refine ⟨M ++ [W.heap.size], ⟨G, hP', fun j hj => ⟨(h2 j hj).1, (h2 j hj).2.1, fun hm => ?_⟩, h3.touch k2 (fun j hj => ?_), fun j hj => ⟨(h4 j hj).1, fun hm => ?_⟩, fun j hj => ?_, hA', Nat.le_trans h7 k.size⟩, fun j hj => by simp [hj], fun j hj => by rw [e] at hj; injection hj with hj; simp [hj]⟩
  ·rcases List.mem_append.1 hm with hm | hm
   ·exact (h2 j hj).2.2 hm
   ·have := hGl j hj; have e : j = W.heap.size := by simpa using hm
    omega
  ·rcases List.mem_append.1 hj with hj | hj
   ·rcases List.mem_append.1 hj with hj | hj
    ·exact .inl (by simp [hj])
    ·rcases List.mem_append.1 hj with hj | hj
     ·exact .inl (by simp [hj])
     ·have e : j = W.heap.size := by simpa using hj
      exact .inr (by omega)
   ·exact .inl (by simp [hj])
  ·rcases List.mem_append.1 hm with hm | hm
   ·exact (h4 j hj).2 hm
   ·have := (h4 j hj).1; have e : j = W.heap.size := by simpa using hm
    omega
  ·rcases List.mem_append.1 hj with hj | hj
   ·exact ⟨(h5 j hj).1, Nat.lt_of_lt_of_le (h5 j hj).2 k.size⟩
   ·have e : j = W.heap.size := by simpa using hj
    exact ⟨by omega, by omega⟩
theorem Own.grown {L : List (Nat × TypeId × List Value)} (h : Own w0 [] L W) {u : Value} (hg : W.grownBy W' u.ownBlock) (hu : ∀ j, u.ownBlock = some j → w0.heap.size ≤ j ∧ j ∉ L.map (·.1)) : Own w0 [] L W' :=
 h.away (grown_touchG hg) fun s hs => .inr (hu s (by simpa using hs))
end
/-- All pages up to k. -/
def allc (D : DS) (k : Nat) : List UInt8 := ((List.range k).map (content D)).flatten
theorem allc_succ (D : DS) (k : Nat) : allc D (k + 1) = allc D k ++ content D k := by unfold allc; rw [List.range_succ, List.map_append, List.flatten_append]; simp
theorem content_128 {D : DS} (h : Sound D) (hf : D.failed = false) (k : Nat) (hk : k < D.pages.length) : (content D k).length = 128 := by
 rw [content_calm (h.pend hf), List.getD_eq_getElem?_getD, List.getElem?_eq_getElem hk]
 exact h.ok.pages _ (List.getElem_mem _)
theorem allc_len {D : DS} (h : Sound D) (hf : D.failed = false) : ∀ k, k ≤ D.pages.length → (allc D k).length = 128 * k
 | 0, _ => rfl
 | k + 1, hk => by rw [allc_succ, List.length_append, allc_len h hf k (by omega), content_128 h hf k (by omega)]; omega
theorem Ow.new {w : World} {base : Nat} {v : Value} {l : List UInt8} (h : Ow w base v l) : ∀ j, v.ownBlock = some j → base ≤ j ∧ j < w.heap.size := by
 obtain ⟨hl, ⟨rfl, h0⟩ | ⟨g, cap, cur, rfl, hg, hh, hn, hm, hs, ht⟩⟩ := h
 ·intro j hj; cases hj
 ·intro j hj
  obtain rfl : g = j := by injection hj
  exact ⟨hg, (Array.getElem?_eq_some_iff.1 hh).1⟩
end
theorem live_zero (n : Nat) (h8 : 8 ≤ n) (h4 : n ≤ 4096) : Live (dNew n) js0 := by
 have hl : (dNew n).pages.length = n := List.length_replicate
 refine ⟨⟨dNew_ok n, by rw [hl]; exact h8, by rw [hl]; exact h4, rfl, rfl, rfl, fun _ => rfl, by show 0 < _; decide, fun _ => ?_, fun h => ?_, fun h => ?_, fun i h2 hi x hx => ?_, fun h => ?_⟩, fun h => ?_⟩
 ·rw [content_new n 0 (by omega), content_new n 1 (by omega)]
  exact ⟨hdrOf_zero 0, .inr ⟨rfl, hdrOf_zero 1⟩⟩
 ·exact absurd h (by decide)
 ·exact absurd h (by decide)
 ·rw [hl] at hi
  rw [content_new n i hi] at hx
  left
  rw [prtOf_turn hx, zero_turn]
  exact Nat.zero_le _
 ·exact absurd h (by decide)
 ·exact absurd h (by decide)
/-- A step of the law, unless a crash meets a coincidence. -/
theorem Inv.wstep {w0 : World} {D : DS} {J : JS} {k : Nat} (h : Inv D J k) (hk : k + 1 < 2 ^ 39) (o : POp) (ho : o.Ok w0) (hc : o.kind = 4 → coin D o.sl = false) : Inv (wStep D J o).1 (wStep D J o).2 (k + 1) := by
 unfold wStep
 by_cases h0 : o.kind = 0
 ·rw [if_pos h0]; exact (inv_append h (pText o)).mono (Nat.le_succ k)
 rw [if_neg h0]
 by_cases h0 : o.kind = 1
 ·rw [if_pos h0]; exact inv_save h hk (pText o)
 rw [if_neg h0]
 by_cases h0 : o.kind = 2
 ·rw [if_pos h0]
  obtain ⟨D', J', e, hl, ht⟩ := inv_reopen h
  rw [e]
  exact .inl ⟨hl, by show J'.turn ≤ _; omega⟩
 rw [if_neg h0]
 by_cases h0 : o.kind = 3
 ·rw [if_pos h0]; exact (inv_fail h _ ho.m.2).mono (Nat.le_succ k)
 rw [if_neg h0]
 by_cases h0 : o.kind = 4
 ·rw [if_pos h0]
  obtain ⟨D', J', e, hl, ht⟩ := inv_crash h o.sl (hc h0)
  rw [e]
  exact .inl ⟨hl, by show J'.turn ≤ _; omega⟩
 rw [if_neg h0]
 exact h.mono (Nat.le_succ k)
theorem Live.fail {D : DS} {J : JS} (h : Live D J) (n : Int) (hn : n ≤ 9223372036854775807) : Live (dFailAfter D n) J := h.other rfl h.pend h.nf (fail_ok h.ok n hn)
/-- What the last operation would leave. -/
def nextJ (J : JS) (o : POp) : JS := if o.kind = 0 then { J with records := J.records ++ [pText o], used := J.used + pagesN (pText o).length } else ⟨J.turn + 1, pText o, [], pagesN (pText o).length, false⟩
/-- The last operation, a crash, Open: what is found. -/
theorem crash_last {D : DS} {J : JS} (h : Live D J) (o : POp) (ho : o.kind = 0 ∨ o.kind = 1) (ht : J.turn + 1 < 2 ^ 39) (s : List Int) (hc : coin (wStep D J o).1 s = false) :
 ∃ K D', jOpen (dCrash (wStep D J o).1 s) = (K, D', 0) ∧ (K = nextJ J o ∨ K = J ∧ (wStep D J o).2.turn = J.turn ∧ (wStep D J o).2.records = J.records) := by
 unfold wStep nextJ at *
 rcases ho with h0 | h0
 ·rw [if_pos h0] at hc ⊢
  rw [if_pos h0]
  obtain ⟨D', e | ⟨e, e2⟩⟩ := crash_law h (append_left h (pText o)) s hc
  ·exact ⟨_, D', e, .inl rfl⟩
  ·refine ⟨_, D', e, .inr ⟨rfl, ?_⟩⟩
   dsimp only
   rcases e2 with e2 | e2
   ·rw [e2]; exact ⟨rfl, rfl⟩
   ·rw [e2]; exact ⟨rfl, rfl⟩
 ·have h00 : ¬ o.kind = 0 := by omega
  rw [if_neg h00, if_pos h0] at hc ⊢
  rw [if_neg h00]
  obtain ⟨D', e | ⟨e, e2⟩⟩ := crash_law h (save_left h (pText o) ht) s hc
  ·exact ⟨_, D', e, .inl rfl⟩
  ·refine ⟨_, D', e, .inr ⟨rfl, ?_⟩⟩
   dsimp only
   rcases e2 with e2 | e2
   ·rw [e2]; exact ⟨rfl, rfl⟩
   ·rw [e2]; exact ⟨rfl, rfl⟩
end Go.Proofs.YtpadgkkeihhneaaGreat
