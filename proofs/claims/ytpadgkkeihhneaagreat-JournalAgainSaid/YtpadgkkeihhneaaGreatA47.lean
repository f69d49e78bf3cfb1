/- The law's operations in memory; few; what stands between two steps. -/
import Derived.Test.YtpadgkkeihhneaaGreatA46
import Derived.Deep.Slices
import Derived.Test.YtpadgkkeihhneaaGreatA43
import Derived.Test.YtpadgkkeihhneaaGreatA45
namespace Go.Proofs.YtpadgkkeihhneaaGreat
set_option maxRecDepth 100000
set_option linter.unusedSimpArgs false
set_option linter.unusedVariables false
open Go.ChangeShapes Go.WideShapes Go.ChangeAt Go.RowKit
set_option linter.unusedVariables false
set_option linter.unusedSimpArgs false

/-! ### Between two steps -/
structure Kept (k : Nat) (D : DS) (J : JS) : Prop where
  sound : Sound D
  brk : D.failed = true → J.broken = true
  turn : J.turn ≤ 1099511627776 + k
  used : J.used ≤ half D
  recs : J.records.length ≤ 4096 + k
theorem Kept.jok {k : Nat} {D : DS} {J : JS} (h : Kept k D J) (hk : k ≤ 200) : JOk D J := by
  have h1 := h.turn
  have h2 := h.recs
  exact ⟨by omega, h.used, by omega⟩
theorem Kept.mono {k k' : Nat} {D : DS} {J : JS} (h : Kept k D J) (hk : k ≤ k') : Kept k' D J := ⟨h.sound, h.brk, by have := h.turn; omega, h.used, by have := h.recs; omega⟩
theorem find1_lt (D : DS) : find1 D < 2 ^ 40 := by
  unfold find1
  split
  · exact hdrOf_lt _ _
  · unfold find0
    split
    · exact hdrOf_lt _ _
    · show 0 < _; omega
theorem blks_lenG (D : DS) (t : Nat) : ∀ (f i a : Nat), (blks D t f i a).length ≤ f := by
  intro f
  induction f with
  | zero => intro i a; exact Nat.le_refl _
  | succ f ih =>
    intro i a
    unfold blks
    cases hb : blk D t i a with
    | none => exact Nat.zero_le _
    | some x => exact Nat.succ_le_succ (ih _ _)
theorem jFind_small (D : DS) : (jFind D).turn < 2 ^ 40 ∧ (jFind D).records.length ≤ half D := by
  unfold jFind
  split
  · exact ⟨by show 0 < _; omega, Nat.zero_le _⟩
  · refine ⟨find1_lt D, ?_⟩
    show (((blocks D (find1 D)).tail).map (·.1)).length ≤ _
    rw [List.length_map, List.length_tail]
    have := blks_lenG D (find1 D) (half D) 0 0
    unfold blocks
    omega
theorem jOpen_is {D D' : DS} {J : JS} (hs : Sound D) (h : jOpen D = (J, D', 0)) : J = jFind D := by
  have h8 := hs.len
  unfold jOpen at h
  rw [if_neg (by omega)] at h
  cases hf : D.failed with
  | true => rw [hf, if_pos rfl] at h; injection h with _ h; injection h with _ h; exact absurd h (by decide)
  | false =>
    rw [hf, if_neg (by simp)] at h
    by_cases h0 : find1 D = 0
    · rw [if_pos h0] at h
      injection h with h _
      rw [← h]; unfold jFind; rw [if_pos h0]
    · rw [if_neg h0] at h
      injection h with h _
      exact h.symm
theorem Kept.opened {D : DS} {J : JS} (hs : Sound D) (hf : D.failed = false) (h : jOpen D = (J, D, 0)) (k : Nat) : Kept k D J := by
  obtain rfl := jOpen_is hs h
  have h1 := jFind_small D
  have h2 : half D ≤ 4096 := by unfold half; have := hs.top; omega
  exact ⟨hs, (fun e => by rw [hf] at e; cases e), by omega, jFind_used, by omega⟩
theorem Kept.reop {D : DS} (hs : Sound D) (k : Nat) : Kept k (reopen D).2.1 (reopen D).1 ∧ (reopen D).2.1.pages.length = D.pages.length := by
  obtain ⟨J, D', e, h1, h2, h3, h4⟩ := reopen_any hs
  rw [e]
  exact ⟨Kept.opened h1 h2 h4 k, h3⟩
theorem Kept.wstep {w0 : World} {k : Nat} {D : DS} {J : JS} (h : Kept k D J) (hk : k ≤ 200) (o : POp) (ho : o.Ok w0) : Kept (k + 1) (wStep D J o).1 (wStep D J o).2 ∧ (wStep D J o).1.pages.length = D.pages.length := by
  have hj := h.jok hk
  have h1 := h.turn
  have h2 := h.recs
  unfold wStep
  by_cases h0 : o.kind = 0
  · rw [if_pos h0]
    obtain ⟨a, b, c, d, e, f⟩ := sound_append h.sound h.brk hj.turn hj.recs h.used (pText o)
    exact ⟨⟨a, c, by show (jAppend D J (pText o)).2.1.turn ≤ _; omega, by show _ ≤ half (jAppend D J (pText o)).1; rw [half_eq b]; exact d, by show (jAppend D J (pText o)).2.1.records.length ≤ _; omega⟩, b⟩
  rw [if_neg h0]
  by_cases h0 : o.kind = 1
  · rw [if_pos h0]
    obtain ⟨a, b, c, d, e, f⟩ := sound_save h.sound h.brk hj.turn hj.recs h.used (pText o)
    exact ⟨⟨a, c, by show (jSave D J (pText o)).2.1.turn ≤ _; omega, by show _ ≤ half (jSave D J (pText o)).1; rw [half_eq b]; exact d, by show (jSave D J (pText o)).2.1.records.length ≤ _; omega⟩, b⟩
  rw [if_neg h0]
  by_cases h0 : o.kind = 2
  · rw [if_pos h0]
    exact Kept.reop h.sound _
  rw [if_neg h0]
  by_cases h0 : o.kind = 3
  · rw [if_pos h0]
    exact ⟨⟨sound_fail h.sound _ ho.m.2, h.brk, by show J.turn ≤ _; omega, h.used, by show J.records.length ≤ _; omega⟩, rfl⟩
  rw [if_neg h0]
  by_cases h0 : o.kind = 4
  · rw [if_pos h0]
    obtain ⟨a, b⟩ := sound_crash h.sound o.sl
    obtain ⟨c, d⟩ := Kept.reop a (k + 1)
    exact ⟨c, d.trans b⟩
  rw [if_neg h0]
  exact ⟨h.mono (by omega), rfl⟩

/-! ### Operations in memory -/
theorem POp.Ok.step {w w' : World} {x : POp} (h : x.Ok w) (k : Below w.heap.size w w') : x.Ok w' := ⟨h.n, h.m, h.fill, h.surv.step k⟩
def PopsIn (w : World) (v : Value) (l : List POp) : Prop :=
  ∃ A c, v = .slice A l.length c ∧ l.length ≤ c ∧ c ≤ maxLen ∧ (∀ x ∈ l, x.Ok w) ∧
    (0 < l.length → ∃ g o, A = some ⟨g, o, none⟩ ∧ g < w.heap.size ∧ ∀ i (h : i < l.length) j, j < 5 → w.cell? ⟨g, o + i * 5 + j, none⟩ = (l[i].cells)[j]?)
theorem PopsIn.step {w w' : World} {v : Value} {l : List POp} (h : PopsIn w v l) (k : Below w.heap.size w w') : PopsIn w' v l := by
  obtain ⟨A, c, e, h1, h2, h3, h4⟩ := h
  refine ⟨A, c, e, h1, h2, fun x hx => (h3 x hx).step k, fun h0 => ?_⟩
  obtain ⟨g, o, eA, hg, hc⟩ := h4 h0
  exact ⟨g, o, eA, Nat.lt_of_lt_of_le hg k.size, fun i hi j hj => (k.cell (p := ⟨g, o + i * 5 + j, none⟩) hg).trans (hc i hi j hj)⟩
theorem PopsIn.form {w : World} {v : Value} {l : List POp} (h : PopsIn w v l) : ∃ A m c, v = .slice A m c ∧ Hid (m = l.length) ∧ m ≤ c ∧ c ≤ 9223372036854775807 := by
  obtain ⟨A, c, e, h1, h2, _⟩ := h; exact ⟨A, _, c, e, rfl, h1, by unfold maxLen at h2; omega⟩
theorem PopsIn.all {w : World} {v : Value} {l : List POp} (h : PopsIn w v l) : ∀ x ∈ l, x.Ok w := by obtain ⟨A, c, e, _, _, h3, _⟩ := h; exact h3
theorem PopsIn.at_ {w : World} {A : Option Addr} {m c : Nat} {l : List POp} (h : PopsIn w (.slice A m c) l) (i : Nat) (hi : i < l.length) :
    ∃ g o, A = some ⟨g, o, none⟩ ∧ g < w.heap.size ∧ (l[i]).Ok w ∧ ∀ j, j < 5 → w.cell? ⟨g, o + i * 5 + j, none⟩ = (l[i].cells)[j]? := by
  obtain ⟨A', c', e, h1, h2, h3, h4⟩ := h
  obtain ⟨rfl, rfl, rfl⟩ : A = A' ∧ m = l.length ∧ c = c' := by injection e with e1 e2 e3; exact ⟨e1, e2, e3⟩
  obtain ⟨g, o, rfl, hg, hc⟩ := h4 (by omega)
  exact ⟨g, o, rfl, hg, h3 _ (List.getElem_mem hi), hc i hi⟩
instance : Inhabited POp := ⟨⟨0, 0, 0, 0, .bool false, []⟩⟩
theorem open_is {H : Type} {enc : TypeId × Value → H} {W : World} {fuel : Nat} {cs : List Value} {x : DataW H × List MemPlace} (h : DataW.trod enc Tryz.prog W 0 (fun _ => true) true fuel 40 cs = some x) : ∃ v l, cs = [v] ∧ Is W v l := by
  rcases open_ints Tryz.underlying40 Tryz.underlying3 (by kernel_rfl) h with ⟨rfl, _⟩ | ⟨a, len, cap, zs, rfl, _, hl, hm, hz, _, hcell, hwf⟩
  · exact ⟨_, [], rfl, Is.nil W⟩
  · simp at hz
    have hlen : (zs.take len).length = len := by rw [List.length_take]; omega
    refine ⟨_, zs.take len, rfl, some a, cap, by rw [hlen], by omega, hm, fun n hn => ?_, fun h0 => ?_⟩
    · have := hwf n (List.mem_of_mem_take hn)
      simpa [Lit.wf, IntKind.min, IntKind.max, IntKind.signed, IntKind.bits] using this
    · rw [hlen] at h0
      obtain ⟨e1, e2⟩ := cell_plain (hcell 0 (by omega))
      have e3 : a = ⟨a.block, a.off, none⟩ := by
        obtain ⟨b, o, s⟩ := a
        have := congrArg Addr.spot e1
        simp only [Addr.add] at this
        simp at this
        simp [this]
      refine ⟨a.block, a.off, by rw [← e3], ?_, fun j u hj => ?_⟩
      · have : (a.add 0).block = a.block := by simp [Addr.add]
        omega
      · rw [List.getElem?_map] at hj
        cases hq : (zs.take len)[j]? with
        | none => rw [hq] at hj; cases hj
        | some y =>
          rw [hq] at hj
          have hjl := (List.getElem?_eq_some_iff.1 hq).1
          rw [hlen] at hjl
          have hc := hcell j (by omega)
          rw [e3, add_plain] at hc
          rw [hc]
          rw [List.getElem?_take, if_pos hjl] at hq
          simp only [List.getD, hq]
          exact hj
theorem open_pop {H : Type} {enc : TypeId × Value → H} {W : World} {fuel : Nat} {cs : List Value} {x : DataW H × List MemPlace} (h : DataW.trod enc Tryz.prog W 0 (fun _ => true) true fuel 42 cs = some x) : ∃ o : POp, cs = o.cells ∧ o.Ok W := by
  obtain ⟨xs, n, _, _, hlen, hxl, hf⟩ := DataW.trod_struct Tryz.underlying42 h
  have c6 : Tryz.prog.cellsOf 42 = 5 := by kernel_rfl
  have ci : Tryz.prog.cellsOf 3 = 1 := by kernel_rfl
  have cu : Tryz.prog.cellsOf 5 = 1 := by kernel_rfl
  have cl : Tryz.prog.cellsOf 40 = 1 := by kernel_rfl
  rw [c6] at hlen
  match cs, hlen with
  | [v0, v1, v2, v3, v4], _ =>
    have hx : ∀ i, i < 5 → ∃ y, xs[i]? = some y := fun i hi => ⟨_, List.getElem?_eq_getElem (by rw [hxl]; exact hi)⟩
    have f0 : DataW.trod enc Tryz.prog W 0 (fun _ => true) true n 3 (([v0, v1, v2, v3, v4].drop 0).take (Tryz.prog.cellsOf 3)) = xs[0]? := hf 0 _ rfl
    have f1 : DataW.trod enc Tryz.prog W 0 (fun _ => true) true n 3 (([v0, v1, v2, v3, v4].drop 1).take (Tryz.prog.cellsOf 3)) = xs[1]? := hf 1 _ rfl
    have f2 : DataW.trod enc Tryz.prog W 0 (fun _ => true) true n 3 (([v0, v1, v2, v3, v4].drop 2).take (Tryz.prog.cellsOf 3)) = xs[2]? := hf 2 _ rfl
    have f3 : DataW.trod enc Tryz.prog W 0 (fun _ => true) true n 5 (([v0, v1, v2, v3, v4].drop 3).take (Tryz.prog.cellsOf 5)) = xs[3]? := hf 3 _ rfl
    have f4 : DataW.trod enc Tryz.prog W 0 (fun _ => true) true n 40 (([v0, v1, v2, v3, v4].drop 4).take (Tryz.prog.cellsOf 40)) = xs[4]? := hf 4 _ rfl
    obtain ⟨y0, e0⟩ := hx 0 (by decide)
    obtain ⟨y1, e1⟩ := hx 1 (by decide)
    obtain ⟨y2, e2⟩ := hx 2 (by decide)
    obtain ⟨y3, e3⟩ := hx 3 (by decide)
    obtain ⟨y4, e4⟩ := hx 4 (by decide)
    rw [e0] at f0
    rw [e1] at f1
    rw [e2] at f2
    rw [e3] at f3
    rw [e4] at f4
    simp only [ci, cu, cl, List.drop_zero, List.drop_succ_cons, List.take_succ_cons, List.take_zero] at f0 f1 f2 f3 f4
    obtain ⟨z0, h0, _, w0⟩ := DataW.trod_int Tryz.underlying3 f0
    obtain ⟨z1, h1, _, w1⟩ := DataW.trod_int Tryz.underlying3 f1
    obtain ⟨z2, h2, _, w2⟩ := DataW.trod_int Tryz.underlying3 f2
    obtain ⟨z3, h3, _, w3⟩ := DataW.trod_int Tryz.underlying5 f3
    obtain ⟨v, l, h4, hi⟩ := open_is f4
    have w3' : 0 ≤ z3 ∧ z3 ≤ 255 := by simpa [Lit.wf, IntKind.min, IntKind.max, IntKind.signed, IntKind.bits] using w3
    obtain ⟨m3, rfl⟩ := Int.eq_ofNat_of_zero_le w3'.1
    cases h0; cases h1; cases h2; cases h3; cases h4
    exact ⟨⟨z0, z1, z2, m3, v4, l⟩, rfl, by simpa [Lit.wf, IntKind.min, IntKind.max, IntKind.signed, IntKind.bits] using w1, by simpa [Lit.wf, IntKind.min, IntKind.max, IntKind.signed, IntKind.bits] using w2,
      by show m3 ≤ 255; omega, hi⟩
theorem open_pops {H : Type} {enc : TypeId × Value → H} {W : World} {r : Reach} {b0 : Nat} {v : Value} {d : DataW H} {p : List MemPlace}
    (hv : Value.okWide Tryz.prog W r b0 23 v) (h : DataW.Trod enc Tryz.prog W 0 (fun _ => true) true 23 v d p) : ∃ l, PopsIn W v l := by
  obtain ⟨a, n, c, rfl⟩ := okWide_slice Tryz.underlying23 hv
  obtain ⟨fuel, hf⟩ := h
  have c6 : Tryz.prog.cellsOf 42 = 5 := by kernel_rfl
  rcases Go.Deep.open_slice Tryz.underlying23 hf with ⟨hcs, _⟩ | ⟨a', len, cap, m, nn, D, Pl, hcs, _, hl, hm, hmm, _, hx⟩
  · simp [Value.cells] at hcs
    obtain ⟨rfl, rfl, rfl⟩ := hcs
    exact ⟨[], none, 0, rfl, Nat.le_refl _, by unfold maxLen; omega, (fun x hx => by cases hx), fun h => by simp at h⟩
  · simp [Value.cells] at hcs
    obtain ⟨rfl, rfl, rfl⟩ := hcs
    simp at hmm
    subst hmm
    obtain ⟨X, hX⟩ := Go.Deep.choose_lt (α := POp) (n := n) (p := fun i o => o.Ok W ∧ ∀ j, j < 5 → W.cell? ((a'.add (i * 5)).add j) = o.cells[j]?) (fun i hi => by
      obtain ⟨cs', h1, h2⟩ := hx i (by omega)
      rw [c6] at h1
      obtain ⟨_, hlen, hc⟩ := World.cells?_some h1
      obtain ⟨o, rfl, hok⟩ := open_pop h2
      exact ⟨o, hok, fun j hj => hc j hj⟩)
    have hll : ((List.range n).map X).length = n := by simp
    refine ⟨(List.range n).map X, some a', m, by rw [hll], by omega, hm, fun x hx => ?_, fun h0 => ?_⟩
    · obtain ⟨i, hi, rfl⟩ := List.mem_map.1 hx
      exact (hX i (List.mem_range.1 hi)).1
    · rw [hll] at h0
      have hc0 := (hX 0 h0).2 0 (by decide)
      rw [Nat.zero_mul] at hc0
      have hsp : a'.spot = none := by
        have e1 := (cell_plain (v := .int .i64 (X 0).kind) hc0).1
        obtain ⟨b, o, s⟩ := a'
        have := congrArg Addr.spot e1
        simp only [Addr.add] at this
        simpa using this
      obtain ⟨b, o, s⟩ := a'
      simp only at hsp
      subst hsp
      have hbl := (cell_plain (v := .int .i64 (X 0).kind) hc0).2
      refine ⟨b, o, rfl, ?_, fun i hi j hj => ?_⟩
      · simpa [Addr.add] using hbl
      · rw [hll] at hi
        have hh := (hX i hi).2 j hj
        rw [add_plain, add_plain] at hh
        rw [hh]
        simp
/-! ### few -/
def fewP (l : List POp) (most : Int) : Bool := l.all (fun x => decide (x.sl.length ≤ 12)) && decide ((l.length : Int) ≤ most)
theorem fewP_len {l : List POp} {k : Nat} (h : fewP l (k : Int) = true) : l.length ≤ k := by unfold fewP at h; simp at h; omega
set_option maxHeartbeats 2000000 in
theorem fewP_c (v : Value) (l : List POp) (most : Int) (w : World) (h : PopsIn w v l) :
    Calls Tryz.prog 8 #[v, .int .i64 most] w fun e w' => e = .returned (.bool (fewP l most)) ∧ w = w' := by
  obtain ⟨A, n, c, rfl, hn, hnc, hcm⟩ := h.form
  have H := hide h
  clear h
  go_enter Tryz.func8, Tryz.ntmps8
  go_wp2_with fail
  go_loop [5] (fun v5 => ∃ k : Nat, v5 = .int .i64 k ∧ k ≤ n ∧ ∀ i (hi : i < l.length), i < k → (l[i]).sl.length ≤ 12) (fun v5 => n - (intOf v5).toNat)
  case atStart => exact ⟨0, rfl, Nat.zero_le _, fun i _ hi => by omega⟩
  case round =>
    obtain ⟨k, rfl, hk, hall⟩ := hrel
    have HALL := hide hall
    clear hall
    by_cases hlt : k < n
    · have hkl : k < l.length := by rw [← hn.out]; exact hlt
      obtain ⟨g, o, rfl, hg, hok, hc⟩ := H.out.at_ k hkl
      have q5 := hc 4 (by omega)
      simp only [POp.cells, List.getElem?_cons_zero, List.getElem?_cons_succ] at q5
      obtain ⟨As, ms, cs, hsv, hms, _, _⟩ := hok.surv.formN
      rw [hsv] at q5
      have HMS := hide hms.out
      have hki : (k : Int) < (n : Int) := by omega
      have HLT := hide hlt
      have HKL := hide hkl
      clear hc hok hsv hms hlt
      by_cases h20 : ms ≤ 12
      · have h20i : (ms : Int) ≤ 12 := by omega
        go_wp2_with fail
        go_round
        case rel => exact ⟨k + 1, by go_num, HLT.out, fun i hi hik => by
          rcases Nat.lt_or_eq_of_le (Nat.le_of_lt_succ hik) with h1 | h1
          · exact HALL.out i hi h1
          · subst h1; rw [← HMS.out]; exact h20⟩
        case measure => have := HLT.out; simp [intOf]; omega
      · have h20i : (12 : Int) < (ms : Int) := by omega
        have e : fewP l most = false := by
          unfold fewP
          rw [Bool.and_eq_false_iff]
          left
          rw [List.all_eq_false]
          exact ⟨l[k], List.getElem_mem _, by simp; have := HMS.out; omega⟩
        have HEE := hide e
        clear e h20
        go_wp2_with fail
        go_ret
        exact ⟨by rw [HEE.out]; rfl, rfl⟩
    · obtain rfl : k = n := by omega
      have e : fewP l most = decide ((k : Int) ≤ most) := by
        unfold fewP
        rw [← hn.out]
        have : l.all (fun x => decide (x.sl.length ≤ 12)) = true := by
          rw [List.all_eq_true]
          intro x hx
          obtain ⟨i, hi, rfl⟩ := List.mem_iff_getElem.1 hx
          have := HALL.out i hi (by rw [hn.out]; exact hi)
          simpa using this
        rw [this, Bool.true_and]
      have HEE := hide e
      clear e hlt
      go_wp2_with fail
      go_ret
      exact ⟨by rw [HEE.out]; first | rfl | simp, rfl⟩
end Go.Proofs.YtpadgkkeihhneaaGreat
/- The law's Start. -/
namespace Go.Proofs.YtpadgkkeihhneaaGreat
set_option maxRecDepth 100000
set_option linter.unusedSimpArgs false
set_option linter.unusedVariables false
open Go.ChangeShapes Go.WideShapes Go.ChangeAt Go.RowKit
set_option linter.unusedVariables false
set_option linter.unusedSimpArgs false

def zlw : List Value := [.pointer none, .pointer none, .slice none 0 0, .slice none 0 0, .int .i64 0, .bool false, .int .i64 0, .string ⟨#[]⟩, .slice none 0 0, .int .i64 0, .bool false]
theorem world_info : (Tryz.prog.info? 55).map (·.zero) = some (some (.agg zlw.toArray)) := by kernel_rfl
theorem world_size : (Tryz.prog.info? 55).map (·.size) = some 11 := by kernel_rfl
theorem rdisk_info : (Tryz.prog.info? 32).map (·.zero) = some (some (.agg ([.slice none 0 0, .slice none 0 0, .int .i64 0, .bool false] : List Value).toArray)) := by kernel_rfl
theorem built_w (d g : Nat) (A : Option Addr) (n c : Nat) (B : Option Addr) (m b : Nat) (fz : Int) (fl : Bool) (zt : Int) (s : List UInt8) (Ar : Option Addr) (nr cr : Nat) (zu : Int) (br : Bool) :
    Tryz.prog.built 55 [(0, .pointer (some ⟨d, 0, none⟩)), (1, .pointer (some ⟨g, 0, none⟩)), (2, .agg ([.slice A n c, .slice B m b, .int .i64 fz, .bool fl, .int .i64 zt, sv s, .slice Ar nr cr, .int .i64 zu, .bool br] : List Value).toArray)] = some ([.pointer (some ⟨d, 0, none⟩), .pointer (some ⟨g, 0, none⟩), .slice A n c, .slice B m b, .int .i64 fz, .bool fl, .int .i64 zt, sv s, .slice Ar nr cr, .int .i64 zu, .bool br] : List Value).toArray := by kernel_rfl
theorem first_m {w0 W0 w WA : World} {X M : List Nat} {b : Nat} (hb : b = w.heap.size) (hw : w0.heap.size ≤ w.heap.size) (hbel : Below w.heap.size w WA) (hlt : b < WA.heap.size) (hX : ∀ j ∈ X, j < W0.heap.size ∧ j ∉ M) (hM : ∀ j ∈ M, w0.heap.size ≤ j ∧ j < w.heap.size) (hA : Away X W0 w) :
    (∀ j ∈ M ++ [b], w0.heap.size ≤ j ∧ j < WA.heap.size) ∧ (∀ j ∈ X, j < W0.heap.size ∧ j ∉ M ++ [b]) ∧ Away X W0 WA := by
  refine ⟨fun j hj => ?_, fun j hj => ⟨(hX j hj).1, fun hm => ?_⟩, hA.next (Touch.below hbel []) (by simp) (fun j hj => (hX j hj).1)⟩
  · rcases List.mem_append.1 hj with hj | hj
    · exact ⟨(hM j hj).1, Nat.lt_of_lt_of_le (hM j hj).2 hbel.size⟩
    · have e : j = b := by simpa using hj
      omega
  · rcases List.mem_append.1 hm with hm | hm
    · exact (hX j hj).2 hm
    · have e : j = b := by simpa using hm
      have := (hX j hj).1
      have := hA.size
      omega
theorem mem_l2 {M : List Nat} {L0 : List (Nat × TypeId × List Value)} (h : ∀ e ∈ L0, e.1 ∈ M) (b2 b6 : Nat) (t2 t6 : TypeId) (c2 c6 : List Value) : ∀ e ∈ (b6, t6, c6) :: (b2, t2, c2) :: L0, e.1 ∈ M ++ [b2] ++ [b6] := by
  intro e he
  rcases List.mem_cons.1 he with rfl | he
  · simp
  · rcases List.mem_cons.1 he with rfl | he
    · simp
    · simp [h e he]
theorem live_new (n : Nat) (h8 : 8 ≤ n) (h4 : n ≤ 4096) : Sound (dNew n) := ⟨dNew_ok n, by simp [dNew]; omega, by simp [dNew]; omega, fun _ => rfl, Nat.zero_le _⟩
set_option maxHeartbeats 4000000 in
theorem start_c (w0 W0 : World) (X M : List Nat) (L0 : List (Nat × TypeId × List Value)) (n : Nat) (h8 : 8 ≤ n) (h4 : n ≤ 4096) (w : World) (hO : Own w0 [] L0 w) (hL : ∀ e ∈ L0, e.1 ∈ M) (hX : ∀ j ∈ X, j < W0.heap.size ∧ j ∉ M) (hM : ∀ j ∈ M, w0.heap.size ≤ j ∧ j < w.heap.size) (hA : Away X W0 w) :
    Calls Tryz.prog 22 #[.int .i64 n] w fun e W' => ∃ d g vc, e = .returned (.tuple #[.agg (wcs d g vc).toArray, .bool true]) ∧ Own w0 [] L0 W' ∧ Zs (fun W G => Jn W g d G (dNew n) js0) w0 W0 X M W' (.agg vc.toArray) (dNew n) js0 := by
  have HN : Hid ((dNew n).pages.length = n) := hide (by simp [dNew])
  have HS := hide (live_new n h8 h4)
  have HJ := hide (jOpen_good (dNew_good n h8 h4))
  have HJO : Hid (jO (dNew n) = (dNew n, js0, 0)) := hide (by unfold jO; rw [HJ.out])
  have HO0 := hide hO.size
  have HO := hide hO
  have HL := hide hL
  go_enter Tryz.func22, Tryz.ntmps22
  go_wp2_with (first
    | ((with_reducible refine at_alloc 55 ?_); refine wpList_alloc_own_n HO.out rfl 55 rfl zlw world_info ?_; intro WA b2 hb hO hbel; have H1M := first_m hb HO0.out hbel (hO.has _ (List.mem_append_right _ (List.mem_singleton.2 rfl))).1.lt hX hM hA; have HM2 := hide H1M.1; have HX2 := hide H1M.2.1; have HA2 := hide H1M.2.2; clear H1M; replace HO := hide (hO.perm (List.perm_append_singleton _ _)); clear hO hbel hb))
  clear hM hX hA hO hL
  have HO1 := hide HO.out.size
  refine (new_c n (by omega) h4 _).mono ?_
  rintro e w1 ⟨d, F, rfl, hd, hb1, hF⟩
  replace HO := hide (HO.out.step hb1)
  have HD := hide hd
  have HF : Hid (∀ j ∈ F, w0.heap.size ≤ j ∧ j ∉ X ∧ j ∉ M ++ [b2]) := hide (fun j hj => by
  have h1 := hF j hj
  have h2 := HA2.out.size
  refine ⟨?_, fun hm => ?_, fun hm => ?_⟩
  · have := HO1.out; omega
  · have := (HX2.out j hm).1; omega
  · have := (HM2.out j hm).2; omega)
  replace HM2 : Hid (∀ j ∈ M ++ [b2], w0.heap.size ≤ j ∧ j < w1.heap.size) := hide (fun j hj => ⟨(HM2.out j hj).1, Nat.lt_of_lt_of_le (HM2.out j hj).2 hb1.size⟩)
  replace HA2 := hide (HA2.out.next (Touch.below hb1 []) (by simp) (fun j hj => (HX2.out j hj).1))
  clear hd hb1 hF HO0 HO1
  go_wp2_with fail
  refine (new_r (F ++ (M ++ [b2]) ++ X) n (by omega) h4 _ (fun j hj => ?_)).mono ?_
  · rcases List.mem_append.1 hj with hj | hj
    · rcases List.mem_append.1 hj with hj | hj
      · exact HD.out.lt j hj
      · exact (HM2.out j hj).2
    · exact Nat.lt_of_lt_of_le (HX2.out j hj).1 HA2.out.size
  rintro e w2 ⟨v2, rfl, hr, hb2⟩
  obtain ⟨A, nn, c, B, m, bb, vs, xs, rfl, hk⟩ := hr.form
  unfold rv at hr ⊢
  have HZ : Hid (Zs (fun W G => Disk W d G (dNew n)) w0 W0 X (M ++ [b2]) w2 (.agg (rjc A nn c B m bb (dNew n).fuse (dNew n).failed 0 (sv []) (.slice none 0 0) 0 false).toArray) (dNew n) js0) := hide ⟨F, HD.out.step hb2, HF.out, ⟨A, nn, c, B, m, bb, .slice none 0 0, rfl, hr, Rs.nil _ _, fun j hj => by cases hj⟩, HX2.out, fun j hj => ⟨(HM2.out j hj).1, Nat.lt_of_lt_of_le (HM2.out j hj).2 hb2.size⟩, HA2.out.next (Touch.below hb2 []) (by simp) (fun j hj => (HX2.out j hj).1), Nat.le_trans HO.out.size hb2.size⟩
  replace HO := hide (HO.out.step hb2)
  clear hr hb2 hk HD HF HM2 HX2 HA2
  unfold rjc at HZ
  generalize (dNew n).fuse = fz at HZ ⊢
  generalize (dNew n).failed = fl at HZ ⊢
  go_wp2_with (first
    | ((with_reducible refine at_alloc 32 ?_); refine wpList_alloc_own_n HO.out rfl 32 rfl [.slice none 0 0, .slice none 0 0, .int .i64 0, .bool false] rdisk_info ?_; intro WA b6 hb hO hbel; replace HZ := hide (HZ.out.push (keeps_dk d (dNew n)) hb hbel (hO.has _ (List.mem_append_right _ (List.mem_singleton.2 rfl))).1.lt); replace HO := hide (hO.perm (List.perm_append_singleton _ _)); clear hO hbel hb)
    | ((with_reducible refine at_store 32 (.tmp 6) ?_); refine wpList_store_own_t HO.out rfl 32 (.tmp 6) (.tmp 20) rfl 0 _ 0 _ _ ([.slice A nn c, .slice B m bb, .int .i64 fz, .bool fl]) ([.slice A nn c, .slice B m bb, .int .i64 fz, .bool fl]) rfl (.agg ([.slice A nn c, .slice B m bb, .int .i64 fz, .bool fl] : List Value).toArray) rfl rfl (fits_agg _) (by simp [zlw]) (splice_all rfl) (by kernel_rfl) rfl ?_; intro WA hO _ ht; replace HZ := hide (HZ.out.put (keeps_dk d (dNew n)) (by simp) ht); replace HO := hide hO; clear hO ht))
  refine (Zs.turnE (ι := Nat) (P' := fun g => fun W G => Jn W g d G (dNew n) js0) (R := fun g e => e = .returned (.tuple #[.pointer (some ⟨g, 0, none⟩), .int .i64 0])) HZ.out (fun G hG => ?_)).mono ?_
  · refine (jopen_c d G (dNew n) _ hG (by show 0 ≤ 60000; omega) (by rw [HN.out]; omega)).mono fun e w' h => ?_
    rw [HJ.out] at h
    obtain ⟨g, he, ht⟩ := (turns_open h).1 rfl
    exact ⟨g, he, ht⟩
  rintro e w4 ⟨g, rfl, hz, hst⟩
  replace HO := hide (hst ((b6, 32, [.slice A nn c, .slice B m bb, .int .i64 fz, .bool fl]) :: (b2, 55, zlw) :: L0) (mem_l2 HL.out _ _ _ _ _ _) HO.out)
  replace HZ : Hid (Zs (fun W G => Jn W g d G (dNew n) js0) _ _ _ _ _ _ _ _) := hide hz
  clear hst hz
  go_wp2_with (first
    | ((with_reducible refine at_load 32 (.tmp 6) ?_); refine wpList_load_own HO.out rfl 32 (.tmp 6) rfl 0 _ 0 4 _ _ ([.slice A nn c, .slice B m bb, .int .i64 fz, .bool fl]) _ rfl (take_all rfl) rfl Tryz.underlying32 rfl (by kernel_rfl) ?_))
  refine (Zs.ref (r := (dNew n, js0, 0)) (keeps_jn g d (dNew n) js0) HZ.out (fun F hr hF => by rw [← HJO.out]; exact ropen_c F _ _ _ (Rj.rf hr) hF HS.out.sz (by have := HS.out.few; omega) (by have := HS.out.top; omega))).mono ?_
  rintro e w5 ⟨v', rfl, hb5, hz⟩
  replace HO := hide (HO.out.step hb5)
  (try dsimp only at hz)
  (try dsimp only)
  obtain ⟨A5, n5, c5, B5, m5, bb5, q5, rfl, Ar5, nr5, cr5, rfl, _⟩ := hz.form
  have HZ := hide hz
  clear hz hb5
  unfold rjc at HZ ⊢
  generalize (dNew n).fuse = fz5 at HZ ⊢
  generalize (dNew n).failed = fl5 at HZ ⊢
  generalize (js0.turn : Int) = zt5 at HZ ⊢
  generalize js0.state = st5 at HZ ⊢
  generalize (js0.used : Int) = zu5 at HZ ⊢
  generalize js0.broken = br5 at HZ ⊢
  go_wp2_with (first
    | ((with_reducible refine at_alloc 51 ?_); refine wpList_alloc_own_n HO.out rfl 51 rfl zjr rjr_info ?_; intro WA b10 hb hO hbel; replace HZ := hide (HZ.out.push (keeps_jn g d (dNew n) js0) hb hbel (hO.has _ (List.mem_append_right _ (List.mem_singleton.2 rfl))).1.lt); replace HO := hide (hO.perm (List.perm_append_singleton _ _)); clear hO hbel hb)
    | ((with_reducible refine at_store 51 (.tmp 10) ?_); refine wpList_store_own_t HO.out rfl 51 (.tmp 10) (.tmp 37) rfl 0 _ 0 _ _ ([.slice A5 n5 c5, .slice B5 m5 bb5, .int .i64 fz5, .bool fl5, .int .i64 zt5, sv st5, .slice Ar5 nr5 cr5, .int .i64 zu5, .bool br5]) ([.slice A5 n5 c5, .slice B5 m5 bb5, .int .i64 fz5, .bool fl5, .int .i64 zt5, sv st5, .slice Ar5 nr5 cr5, .int .i64 zu5, .bool br5]) rfl (.agg ([.slice A5 n5 c5, .slice B5 m5 bb5, .int .i64 fz5, .bool fl5, .int .i64 zt5, sv st5, .slice Ar5 nr5 cr5, .int .i64 zu5, .bool br5] : List Value).toArray) rfl rfl (fits_agg _) (by simp [zjr]) (splice_all rfl) (by kernel_rfl) rfl ?_; intro WA hO _ ht; replace HZ := hide (HZ.out.put (keeps_jn g d (dNew n) js0) (by simp) ht); replace HO := hide hO; clear hO ht)
    | ((with_reducible refine at_load 51 (.tmp 10) ?_); refine wpList_load_own HO.out rfl 51 (.tmp 10) rfl 0 _ 0 9 _ _ ([.slice A5 n5 c5, .slice B5 m5 bb5, .int .i64 fz5, .bool fl5, .int .i64 zt5, sv st5, .slice Ar5 nr5 cr5, .int .i64 zu5, .bool br5]) _ rfl (take_all rfl) rfl Tryz.underlying51 rfl (by kernel_rfl) ?_)
    | (refine wpList_build rfl 55 _ rfl ([(0, .pointer (some ⟨d, 0, none⟩)), (1, .pointer (some ⟨g, 0, none⟩)), (2, .agg ([.slice A5 n5 c5, .slice B5 m5 bb5, .int .i64 fz5, .bool fl5, .int .i64 zt5, sv st5, .slice Ar5 nr5 cr5, .int .i64 zu5, .bool br5] : List Value).toArray)]) (by first | (simp [Act.eval]; done) | (simp [Act.eval]; rfl)) ([.pointer (some ⟨d, 0, none⟩), .pointer (some ⟨g, 0, none⟩), .slice A5 n5 c5, .slice B5 m5 bb5, .int .i64 fz5, .bool fl5, .int .i64 zt5, sv st5, .slice Ar5 nr5 cr5, .int .i64 zu5, .bool br5] : List Value).toArray (built_w d g _ _ _ _ _ _ _ _ _ _ _ _ _ _ _) ?_)
    | ((with_reducible refine at_store 55 (.tmp 2) ?_); refine wpList_store_own_t HO.out rfl 55 (.tmp 2) (.tmp 42) rfl 2 _ 0 _ _ ([.pointer (some ⟨d, 0, none⟩), .pointer (some ⟨g, 0, none⟩), .slice A5 n5 c5, .slice B5 m5 bb5, .int .i64 fz5, .bool fl5, .int .i64 zt5, sv st5, .slice Ar5 nr5 cr5, .int .i64 zu5, .bool br5]) ([.pointer (some ⟨d, 0, none⟩), .pointer (some ⟨g, 0, none⟩), .slice A5 n5 c5, .slice B5 m5 bb5, .int .i64 fz5, .bool fl5, .int .i64 zt5, sv st5, .slice Ar5 nr5 cr5, .int .i64 zu5, .bool br5]) rfl (.agg ([.pointer (some ⟨d, 0, none⟩), .pointer (some ⟨g, 0, none⟩), .slice A5 n5 c5, .slice B5 m5 bb5, .int .i64 fz5, .bool fl5, .int .i64 zt5, sv st5, .slice Ar5 nr5 cr5, .int .i64 zu5, .bool br5] : List Value).toArray) rfl rfl (fits_agg _) (by simp [zlw]) (splice_all rfl) (by kernel_rfl) rfl ?_; intro WA hO _ ht; replace HZ := hide (HZ.out.put (keeps_jn g d (dNew n) js0) (by simp) ht); replace HO := hide hO; clear hO ht))
  refine bodyPost_ret (v := .tuple #[.agg ([.pointer (some ⟨d, 0, none⟩), .pointer (some ⟨g, 0, none⟩), .slice A5 n5 c5, .slice B5 m5 bb5, .int .i64 fz5, .bool fl5, .int .i64 zt5, sv st5, .slice Ar5 nr5 cr5, .int .i64 zu5, .bool br5] : List Value).toArray, .bool true]) (results_row_tmp rfl _ _ b2 55 ([.pointer (some ⟨d, 0, none⟩), .pointer (some ⟨g, 0, none⟩), .slice A5 n5 c5, .slice B5 m5 bb5, .int .i64 fz5, .bool fl5, .int .i64 zt5, sv st5, .slice Ar5 nr5 cr5, .int .i64 zu5, .bool br5] : List Value).toArray (0, 0) _ _ rfl rfl (HO.out.blk 2 rfl) Tryz.underlying55 rfl world_size) rfl ?_
  exact ⟨d, g, [.slice A5 n5 c5, .slice B5 m5 bb5, .int .i64 fz5, .bool fl5, .int .i64 zt5, sv st5, .slice Ar5 nr5 cr5, .int .i64 zu5, .bool br5], rfl, HO.out.sub (show L0.Sublist (_ :: _ :: _ :: L0) from (List.sublist_cons_self _ _).trans ((List.sublist_cons_self _ _).trans (List.sublist_cons_self _ _))), Zs.drop (N' := [b2, b6, b10]) (by simpa [List.append_assoc] using HZ.out)⟩
end Go.Proofs.YtpadgkkeihhneaaGreat
/- The chapter's example. -/
namespace Go.Proofs.YtpadgkkeihhneaaGreat
set_option maxRecDepth 100000
set_option linter.unusedSimpArgs false
set_option linter.unusedVariables false
open Go.ChangeShapes Go.WideShapes Go.ChangeAt Go.RowKit
set_option linter.unusedVariables false
set_option linter.unusedSimpArgs false

set_option maxRecDepth 100000 in
set_option maxHeartbeats 4000000 in
theorem awake_c (w : World) : Calls Tryz.prog 7 #[] w fun e w' => e = .returned (.bool true) ∧ Below w.heap.size w w' := by
  go_enter Tryz.func7, Tryz.ntmps7
  go_wp2_with fail
  refine (new_z 20 (by decide) (by decide) w w (Below.refl _ _)).mono ?_
  rintro e w1 ⟨d, rfl, hz⟩
  have HZ := hide hz
  clear hz
  go_wp2_with fail
  refine (open_z HZ.out).mono ?_
  rintro e w2 ⟨g, rfl, hz, _⟩
  replace HZ := hide hz
  clear hz
  go_wp2_with fail
  refine (save_z HZ.out [97] _ rfl (by decide) (by decide) (by decide)).mono ?_
  rintro e w3 ⟨rfl, hz, _⟩
  replace HZ := hide hz
  clear hz
  go_wp2_with fail
  refine (append_z HZ.out [98] _ rfl (by decide) (by decide) (by decide) (by decide)).mono ?_
  rintro e w4 ⟨rfl, hz, _⟩
  replace HZ := hide hz.dk
  clear hz
  go_wp2_with fail
  refine (crash_z HZ.out).mono ?_
  rintro e w5 ⟨rfl, hz, _⟩
  replace HZ := hide hz
  clear hz
  go_wp2_with fail
  refine (open_z HZ.out).mono ?_
  rintro e w6 ⟨g2, rfl, hz, _⟩
  replace HZ := hide hz
  clear hz
  go_wp2_with fail
  refine (state_z HZ.out).mono ?_
  rintro e w7 ⟨he, rfl⟩
  replace he : e = .returned (.string ⟨#[97]⟩) := he
  subst he
  go_wp2_with fail
  refine (records_z HZ.out).mono ?_
  rintro e w7 ⟨v, rfl, hs, _, hb⟩
  obtain ⟨A, n, c, rfl, hn, _, _⟩ := hs.formN
  obtain rfl : n = 1 := hn.out
  replace HZ := hide (HZ.out.step hb)
  clear hs hb hn
  go_wp2_with fail
  refine (records_z HZ.out).mono ?_
  rintro e w8 ⟨v, rfl, hs, _, hb⟩
  obtain ⟨A2, n, c2, rfl, hn, _, _⟩ := hs.formN
  obtain rfl : n = 1 := hn.out
  obtain ⟨b, off, rfl, _, hc⟩ := hs.at_ 0 (by show 0 < 1; omega)
  replace hc : w8.cell? ⟨b, off, none⟩ = some (.string ⟨#[98]⟩) := hc
  replace HZ := hide (HZ.out.step hb)
  clear hs hb hn
  go_wp2_with fail
  refine (turn_z HZ.out).mono ?_
  rintro e w9 ⟨he, rfl⟩
  replace he : e = .returned (.int .i64 1) := he
  subst he
  go_wp2_with fail
  refine (pages_fn 97 (by decide) _).mono ?_
  rintro e w9 ⟨he, rfl⟩
  replace he : e = .returned (.int .i64 2) := he
  subst he
  go_wp2_with fail
  go_ret
  exact ⟨rfl, HZ.out.below⟩
end Go.Proofs.YtpadgkkeihhneaaGreat
/- JournalCalls: after every operation the journal is as the reference says. -/
namespace Go.Proofs.YtpadgkkeihhneaaGreat
set_option maxRecDepth 100000
set_option linter.unusedSimpArgs false
set_option linter.unusedVariables false
open Go.ChangeShapes Go.WideShapes Go.ChangeAt Go.RowKit
set_option linter.unusedVariables false
set_option linter.unusedSimpArgs false

/-- The cells of the operation at i. -/
theorem pop_cells {w w' : World} {gl ol n c : Nat} {l : List POp} {i : Nat} (h : PopsIn w (.slice (some ⟨gl, ol, none⟩) n c) l) (hi : i < l.length) (x : POp) (hx : l[i]? = some x) {As : Option Addr} {ms cs : Nat} (hsv : x.sv = .slice As ms cs) (hb : ∀ a : Addr, a.block = gl → w'.cell? a = w.cell? a) :
    w'.cell? ⟨gl, ol + i * 5, none⟩ = some (.int .i64 x.kind) ∧ w'.cell? ⟨gl, ol + i * 5 + 1, none⟩ = some (.int .i64 x.n) ∧ w'.cell? ⟨gl, ol + i * 5 + 2, none⟩ = some (.int .i64 x.m) ∧ w'.cell? ⟨gl, ol + i * 5 + 3, none⟩ = some (.int .u8 x.fill) ∧ w'.cell? ⟨gl, ol + i * 5 + 4, none⟩ = some (.slice As ms cs) := by
  obtain ⟨g, o, e, hg, hok, hc⟩ := h.at_ i hi
  obtain ⟨rfl, rfl⟩ : gl = g ∧ ol = o := by injection e with e; injection e with e1 e2; exact ⟨e1, e2⟩
  have hxe : l[i] = x := by rw [List.getElem?_eq_getElem hi] at hx; injection hx
  rw [hxe] at hc
  unfold POp.cells at hc
  rw [hsv] at hc
  exact ⟨(hb _ rfl).trans (hc 0 (by decide)), (hb _ rfl).trans (hc 1 (by decide)), (hb _ rfl).trans (hc 2 (by decide)), (hb _ rfl).trans (hc 3 (by decide)), (hb _ rfl).trans (hc 4 (by decide))⟩
/-- A World of the law just made, at a block of its own. -/
theorem Ww.below {w0 W0 W : World} {X : List Nat} {x d g : Nat} {D : DS} {J : JS} (h : Ww w0 W0 X x d g W D J) : Below w0.heap.size w0 W := by obtain ⟨A, n, c, B, m, b, Ar, nr, cr, hO, hZ⟩ := h; exact hO.below
theorem Zs.cells9 {P : World → List Nat → Prop} {w0 W0 W : World} {X M : List Nat} {vc : List Value} {D : DS} {J : JS} (h : Zs P w0 W0 X M W (.agg vc.toArray) D J) : ∃ A n c B m b Ar nr cr, vc = rjc A n c B m b D.fuse D.failed J.turn (sv J.state) (.slice Ar nr cr) J.used J.broken := by
  obtain ⟨A, n, c, B, m, b, q, hv, Ar, nr, cr, rfl, _⟩ := h.form
  refine ⟨A, n, c, B, m, b, Ar, nr, cr, ?_⟩
  injection hv with hv
  exact List.toArray_inj hv
/-- Between two rounds. -/
def CallsR (W : World) (x : Nat) (l : List POp) (v7 : Value) (w : World) : Prop := ∃ (i d g : Nat) (D : DS) (J : JS), v7 = .int .i64 i ∧ i ≤ l.length ∧ Ww W W [] x d g w D J ∧ Kept i D J
end Go.Proofs.YtpadgkkeihhneaaGreat
/- A second journal on the same disk; slices of a law that grow beside its World. -/
namespace Go.Proofs.YtpadgkkeihhneaaGreat
set_option maxRecDepth 100000
set_option linter.unusedSimpArgs false
set_option linter.unusedVariables false
open Go.ChangeShapes Go.WideShapes Go.ChangeAt Go.RowKit
set_option linter.unusedVariables false
set_option linter.unusedSimpArgs false

/-- Two journals, alike, on one disk. -/
def Twin (g g2 d : Nat) (D : DS) (J : JS) (W : World) (G : List Nat) : Prop := ∃ F q q2, Jr W g d F D J q ∧ Jr W g2 d F D J q2 ∧ (∀ j ∈ F, j ∈ G) ∧ (∀ j, q.ownBlock = some j → j ∈ G) ∧ (∀ j, q2.ownBlock = some j → j ∈ G) ∧ g ∈ G ∧ g2 ∈ G ∧ ∀ j ∈ G, j < W.heap.size
theorem keeps_twin (g g2 d : Nat) (D : DS) (J : JS) : Keeps (Twin g g2 d D J) := by
  refine ⟨fun W W' S G h k hS => ?_, fun W G h => ?_⟩
  · obtain ⟨F, q, q2, h1, h2, h3, h4, h5, h6, h7, h8⟩ := h
    exact ⟨F, q, q2, h1.touch k (hS g h6) (fun j hj => hS j (h4 j hj)) (fun j hj => hS j (h3 j hj)), h2.touch k (hS g2 h7) (fun j hj => hS j (h5 j hj)) (fun j hj => hS j (h3 j hj)), h3, h4, h5, h6, h7, fun j hj => Nat.lt_of_lt_of_le (h8 j hj) k.size⟩
  · obtain ⟨F, q, q2, h1, h2, h3, h4, h5, h6, h7, h8⟩ := h
    exact h8
theorem twin_disk {g g2 d : Nat} {D : DS} {J : JS} : ∀ W G, Twin g g2 d D J W G → ∃ F, Disk W d F D := fun W G h => by obtain ⟨F, q, q2, h1, _⟩ := h; exact ⟨F, h1.disk⟩
/-- Another Open of a disk that it leaves alone. -/
theorem twin_open {g d : Nat} {G : List Nat} {D : DS} {J : JS} {W : World} (h : Jn W g d G D J) (ho : jOpen D = (J, D, 0)) (hp : D.pend.length ≤ 60000) (h5 : D.pages.length ≤ 5000) :
    Calls Tryz.prog 18 #[.pointer (some ⟨d, 0, none⟩)] W fun e w' => ∃ g2, e = .returned (.tuple #[.pointer (some ⟨g2, 0, none⟩), .int .i64 0]) ∧ Turns (Twin g g2 d D J) W G w' := by
  obtain ⟨F, q, h1, h2, h3, h4, h5'⟩ := h
  refine (jopen_c d F D W h1.disk hp h5).mono fun e w' hr => ?_
  rw [ho] at hr
  obtain ⟨F', ht, hF', hlt', hd', hr⟩ := hr
  dsimp only at hd' hr
  rw [if_pos rfl] at hr
  obtain ⟨g2, rv, he, hj2, hg2, hrv⟩ := hr
  refine ⟨g2, he, g2 :: (rv.ownBlock.toList ++ (F' ++ G)), ⟨F', q, rv, ?_, hj2, fun j hj => by simp [hj], fun j hj => by simp [h3 j hj], fun j hj => by simp [hj], by simp [h4], by simp, fun j hj => ?_⟩, ht.mono (fun s hs => .inl (h2 s hs)), fun j hj => ?_⟩
  · have hg1 : g < W.heap.size := h1.blk.lt
    have hown : ∀ j, q.ownBlock = some j → j < W.heap.size := fun j hj => h1.recs.lt j hj
    refine ⟨h1.blk.touch ht h1.gF, h1.recs.touch ht (fun j hj => (h1.rF j hj).1), fun hm => ?_, fun j hj => ⟨fun hm => ?_, (h1.rF j hj).2⟩, hlt', hd'⟩
    · rcases hF' g hm with e | e
      · exact h1.gF e
      · omega
    · rcases hF' j hm with e | e
      · exact (h1.rF j hj).1 e
      · have := hown j hj; omega
  · rcases List.mem_cons.1 hj with rfl | hj
    · exact hj2.blk.lt
    · rcases List.mem_append.1 hj with hj | hj
      · exact hj2.recs.lt j (by simpa using hj)
      · rcases List.mem_append.1 hj with hj | hj
        · exact hlt' j hj
        · exact Nat.lt_of_lt_of_le (h5' j hj) ht.size
  · rcases List.mem_cons.1 hj with rfl | hj
    · exact .inr hg2
    · rcases List.mem_append.1 hj with hj | hj
      · exact .inr (hrv j (by simpa using hj))
      · rcases List.mem_append.1 hj with hj | hj
        · rcases hF' j hj with e | e
          · exact .inl (h2 j e)
          · exact .inr e
        · exact .inl hj
theorem grown_touchG {w w' : World} {v : Value} (h : w.grownBy w' v.ownBlock) : Touch v.ownBlock.toList w w' :=
  ⟨h.os, h.tape, h.output, h.size, fun k hk hne => h.block k hk (fun e => hne (by rw [← e]; simp))⟩
section
variable {P : World → List Nat → Prop} {w0 W0 W W' : World} {X M : List Nat} {v : Value} {D : DS} {J : JS}
/-- A local slice grew. -/
theorem Zs.grown (hP : Keeps P) (h : Zs P w0 W0 X M W v D J) {u u' : Value} (hg : W.grownBy W' u.ownBlock) (hu : ∀ j, u.ownBlock = some j → j ∈ M) (hu' : u'.ownBlock = u.ownBlock ∨ u'.ownBlock = some W.heap.size) (hlt : ∀ j, u'.ownBlock = some j → j < W'.heap.size) :
    ∃ M', Zs P w0 W0 X M' W' v D J ∧ (∀ j ∈ M, j ∈ M') ∧ (∀ j, u'.ownBlock = some j → j ∈ M') := by
  have k := grown_touchG hg
  have hsub : ∀ s ∈ u.ownBlock.toList, s ∈ M := fun s hs => hu s (by simpa using hs)
  obtain ⟨G, h1, h2, h3, h4, h5, h6, h7⟩ := h
  have hX := h6.size
  have hGl := hP.lt _ _ h1
  have k2 : Touch (G ++ M ++ X) W W' := k.mono (fun s hs => .inl (by simp [hsub s hs]))
  have hP' : P W' G := hP.touch _ _ _ _ h1 k (fun j hj hm => (h2 j hj).2.2 (hsub j hm))
  have hA' : Away X W0 W' := h6.next k (fun j hj _ hm => (h4 j hj).2 (hsub j hm)) (fun j hj => (h4 j hj).1)
  rcases hu' with e | e
  · exact ⟨M, ⟨G, hP', h2, h3.touch k2 (fun j hj => .inl hj), h4, fun j hj => ⟨(h5 j hj).1, Nat.lt_of_lt_of_le (h5 j hj).2 k.size⟩, hA', Nat.le_trans h7 k.size⟩, fun j hj => hj, fun j hj => hu j (by rw [← e]; exact hj)⟩
  · have hb := hlt _ e
    refine ⟨M ++ [W.heap.size], ⟨G, hP', fun j hj => ⟨(h2 j hj).1, (h2 j hj).2.1, fun hm => ?_⟩, h3.touch k2 (fun j hj => ?_), fun j hj => ⟨(h4 j hj).1, fun hm => ?_⟩, fun j hj => ?_, hA', Nat.le_trans h7 k.size⟩, fun j hj => by simp [hj], fun j hj => by rw [e] at hj; injection hj with hj; simp [hj]⟩
    · rcases List.mem_append.1 hm with hm | hm
      · exact (h2 j hj).2.2 hm
      · have := hGl j hj; have e : j = W.heap.size := by simpa using hm
        omega
    · rcases List.mem_append.1 hj with hj | hj
      · rcases List.mem_append.1 hj with hj | hj
        · exact .inl (by simp [hj])
        · rcases List.mem_append.1 hj with hj | hj
          · exact .inl (by simp [hj])
          · have e : j = W.heap.size := by simpa using hj
            exact .inr (by omega)
      · exact .inl (by simp [hj])
    · rcases List.mem_append.1 hm with hm | hm
      · exact (h4 j hj).2 hm
      · have := (h4 j hj).1; have e : j = W.heap.size := by simpa using hm
        omega
    · rcases List.mem_append.1 hj with hj | hj
      · exact ⟨(h5 j hj).1, Nat.lt_of_lt_of_le (h5 j hj).2 k.size⟩
      · have e : j = W.heap.size := by simpa using hj
        exact ⟨by omega, by omega⟩
theorem Own.grown {L : List (Nat × TypeId × List Value)} (h : Own w0 [] L W) {u : Value} (hg : W.grownBy W' u.ownBlock) (hu : ∀ j, u.ownBlock = some j → w0.heap.size ≤ j ∧ j ∉ L.map (·.1)) : Own w0 [] L W' :=
  h.away (grown_touchG hg) fun s hs => .inr (hu s (by simpa using hs))
end
/-- All pages up to k. -/
def allc (D : DS) (k : Nat) : List UInt8 := ((List.range k).map (content D)).flatten
theorem allc_succ (D : DS) (k : Nat) : allc D (k + 1) = allc D k ++ content D k := by unfold allc; rw [List.range_succ, List.map_append, List.flatten_append]; simp
theorem content_128 {D : DS} (h : Sound D) (hf : D.failed = false) (k : Nat) (hk : k < D.pages.length) : (content D k).length = 128 := by
  rw [content_calm (h.pend hf), List.getD_eq_getElem?_getD, List.getElem?_eq_getElem hk]
  exact h.ok.pages _ (List.getElem_mem _)
theorem allc_len {D : DS} (h : Sound D) (hf : D.failed = false) : ∀ k, k ≤ D.pages.length → (allc D k).length = 128 * k
  | 0, _ => rfl
  | k + 1, hk => by rw [allc_succ, List.length_append, allc_len h hf k (by omega), content_128 h hf k (by omega)]; omega
theorem Ow.new {w : World} {base : Nat} {v : Value} {l : List UInt8} (h : Ow w base v l) : ∀ j, v.ownBlock = some j → base ≤ j ∧ j < w.heap.size := by
  obtain ⟨hl, ⟨rfl, h0⟩ | ⟨g, cap, cur, rfl, hg, hh, hn, hm, hs, ht⟩⟩ := h
  · intro j hj; cases hj
  · intro j hj
    obtain rfl : g = j := by injection hj
    exact ⟨hg, (Array.getElem?_eq_some_iff.1 hh).1⟩
end Go.Proofs.YtpadgkkeihhneaaGreat
