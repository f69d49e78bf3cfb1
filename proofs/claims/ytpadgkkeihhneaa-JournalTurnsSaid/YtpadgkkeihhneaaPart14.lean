/- Read. -/
import Derived.Test.YtpadgkkeihhneaaCont
import Derived.Deep.Upon
import Derived.Lib.EndianMore
import Derived.Deep.WholeRow
import Derived.WalkKit
import Derived.Shelf.Abstract
import Derived.WalkSpells
import Derived.Test.YtpadgkkeihhneaaPart02
import Derived.Lib.MinMax
import Derived.Test.YtpadgkkeihhneaaPart04
import Derived.Test.YtpadgkkeihhneaaJPart
import Derived.Test.YtpadgkkeihhneaaPart06
namespace Go.Proofs.Ytpadgkkeihhneaa
set_option maxRecDepth 100000
set_option linter.unusedSimpArgs false
set_option linter.unusedVariables false
open Go.ChangeShapes Go.WideShapes Go.ChangeAt Go.RowKit
set_option linter.unusedVariables false
set_option linter.unusedSimpArgs false

attribute [local go_sem] Oper.semAt_some
theorem contents_in (F : Fence) (n : Nat) (hF : F.fn 48) (hro : F.round = none) (d p : Nat) (w : World) :
    CallsIn F n Try.prog 48 #[.pointer (some ⟨d, 0, none⟩), .int .i64 p] w fun e w' => e = .returned (.func (.func 58) #[] #[.pointer (some ⟨w.heap.size, 0, none⟩), .pointer (some ⟨w.heap.size + 1, 0, none⟩)]) ∧
      w' = (w.alloc (.cells #[.pointer (some ⟨d, 0, none⟩)] 24)).alloc (.cells #[.int .i64 p] 3) := by
  have hmf : ∀ (fn : Fn) (first cap : Array Value) (w : World), (Instr.makeFunc fn first cap).run Try.prog w = .ok (.func fn first cap) w := fun _ _ _ _ => rfl
  refine callsIn_of_wp Try.func48 rfl hF ?_ hro
  simp only [Try.ntmps48, List.size_toArray, List.length_cons, List.length_nil, Nat.reduceAdd, Nat.reduceSub, Array.replicate_succ, Array.replicate_zero, List.push_toArray, List.append_toArray, List.nil_append, List.cons_append]
  gi_wp2_with fail
  go_ret
  exact ⟨rfl, rfl⟩

@[irreducible] def zpg : Array Value := Array.replicate 128 (.int .u8 0)
theorem zpg_size : zpg.size = 128 := by unfold zpg; simp
theorem zpg_list : zpg.toList = (List.replicate 128 (0 : UInt8)).map bv := by unfold zpg; simp [bv, u8]
theorem zero_page (w : World) : (zeroValue 79).run Try.prog w = .ok (.agg zpg) w := by unfold zpg; kernel_rfl
theorem hone_page (l : List UInt8) : ∀ v ∈ l.map bv, v.oneCell' = true := fun v hv => by obtain ⟨x, _, rfl⟩ := List.mem_map.1 hv; exact bv_one x
theorem there_page (w : World) {n : Nat} (h : n = 128) : (w.alloc (.cells zpg 79)).there w.heap.size 0 n := by
  subst h
  intro j hj
  have hb := Blk.new w 79 zpg
  rw [Nat.zero_add, hb.cell j, hb.froz j]
  have := zpg_size
  exact ⟨by rw [Array.getElem?_eq_getElem (by omega)]; rfl, rfl⟩
theorem setPage_new (w : World) (cs : List Value) (h : cs.length = 128) (hone : ∀ v ∈ cs, v.oneCell' = true) : (w.alloc (.cells zpg 79)).setCells w.heap.size 0 cs.toArray.toList = w.alloc (.cells cs.toArray 79) := by
  have h1 : (cs.toArray).all (·.oneCell') = true := all_oneCell_toArray hone
  have hs : (Try.prog.info? 79).map (·.size) = some cs.toArray.size := by rw [info_arr]; simp [h]
  have a := run_storeVar_new (P := Try.prog) w 79 zpg cs.toArray hs (by rw [zpg_size]; simp [h]) h1
  have b := run_storeVar_mid (P := Try.prog) (w.alloc (.cells zpg 79)) w.heap.size 0 79 cs.toArray (there_page w (by simpa using h)) hs h1
  rw [a] at b
  injection b with _ b
  exact b.symm
theorem Hole.setCells {B L : Nat} {a w : World} (h : Hole B L a w) (o : Nat) (vs : List Value) (hB : B ≤ a.heap.size) : Hole B L a (w.setCells L o vs) := by
  have h0 := Lib.below_setCells_w (B := 0) (g := L) (Nat.zero_le _) vs o w
  exact h.trans ⟨h0.os, h0.tape, h0.output, h0.size, fun k hk hne => World.heap_setCells_other w L o vs (by have := h.size; omega) hne⟩
theorem keeps_setCells {B L : Nat} (w : World) (o : Nat) (vs : List Value) (hL : L < B) : KeepsFrom B w (w.setCells L o vs) := by
  have h0 := Lib.below_setCells_w (B := 0) (g := L) (Nat.zero_le _) vs o w
  exact ⟨h0.size, fun k ob hk h _ => (World.heap_setCells_other w L o vs (Array.getElem?_eq_some_iff.1 h).1 (by omega)).trans h⟩
/-- What the variable last holds. -/
def lastc (pre : List Pg) : List Value := (pre.getLast?.map (fun x => x.1.map bv)).getD zpg.toList
theorem lastc_snoc (pre : List Pg) (x : Pg) : lastc (pre ++ [x]) = x.1.map bv := by unfold lastc; simp
theorem lastc_len (pre : List Pg) : (lastc pre).length = 128 := by
  unfold lastc
  cases h : pre.getLast? with
  | none => simp [zpg_size]
  | some x => simpa using x.2
theorem lastc_all (D : DS) (p : Nat) (xs : List Pg) (h : xs.map (·.1) = hist D p) : lastc xs = (content D p).map bv := by
  have hne : xs ≠ [] := by intro e; subst e; simp [hist] at h
  have h2 : (xs.map (·.1)).getLast? = (hist D p).getLast? := by rw [h]
  unfold lastc content
  rw [← h2, List.getLast?_map]
  cases hx : xs.getLast? with
  | none => exact absurd (List.getLast?_eq_none_iff.1 hx) hne
  | some x => rfl

/-- What Read's loop keeps. -/
def RdI (W0 : World) (L : Nat) (pre : List Pg) (W : World) : Prop := (W.rangeAt L 0 (lastc pre) ∧ W.there L 0 128) ∧ Hole (L + 3) L W0 W
theorem rdI_own {W0 : World} {L : Nat} (hsz : W0.heap.size = L + 3) : OwnFrom W0.heap.size (RdI W0 L) := by
  rintro pre W W' row ⟨⟨h1, h2⟩, h3⟩ hg hr
  have hb : W'.heap[L]? = W.heap[L]? := hg.block L (by have := h3.size; omega) (fun e => by have := (hr _ e.symm).1; omega)
  refine ⟨⟨fun j u hj => (World.cell?_of_block hb).trans (h1 j u hj), fun j hj => ?_⟩, h3.trans ⟨hg.os, hg.tape, hg.output, hg.size, fun k hk _ => hg.block k (by have := h3.size; omega) (fun e => by have := (hr _ e.symm).1; omega)⟩⟩
  have e1 : W'.cell? ⟨L, 0 + j, none⟩ = W.cell? ⟨L, 0 + j, none⟩ := World.cell?_of_block hb
  have e2 : W'.frozen? ⟨L, 0 + j, none⟩ = W.frozen? ⟨L, 0 + j, none⟩ := by simp [World.frozen?, hb]
  rw [e1, e2]; exact h2 j hj
theorem run_whole (b : Nat) (w : World) : (Instr.sliceAt 79 (.pointer (some ⟨b, 0, none⟩)) none none none).run Try.prog w = .ok (.slice (some ⟨b, 0, none⟩) 128 128) w := by
  kernel_rfl

/-- What Read hands back: a new slice. -/
def ReadR (w : World) (D : DS) (p : Int) (e : Ending) (w' : World) : Prop :=
  ∃ v, e = .returned (.tuple #[v, .int .i64 (dRead D p).2]) ∧ Bs w' v (dRead D p).1 ∧ (∀ j, v.ownBlock = some j → w.heap.size ≤ j) ∧ Below w.heap.size w w'

set_option maxHeartbeats 1000000 in
theorem read_failed (d : Nat) (F : List Nat) (D : DS) (p : Int) (w : World) (h : Disk w d F D) (hf : D.failed = true) :
    Calls Try.prog 36 #[.pointer (some ⟨d, 0, none⟩), .int .i64 p] w (ReadR w D p) := by
  obtain ⟨gv, pv, h⟩ := h
  obtain ⟨c0, c1, c2, c3, f0, f1, f2, f3⟩ := h.cells
  have hr : dRead D p = ([], 10) := by unfold dRead; rw [if_pos hf]
  rw [hf] at c3
  have HR := hide hr
  clear h hf hr
  go_enter Try.func36, Try.ntmps36
  go_wp2_with fail
  go_ret2
  exact ⟨.slice none 0 0, by rw [HR.out]; rfl, by rw [HR.out]; exact Bs.nil _, (fun j hj => by cases hj), Below.refl _ _⟩
set_option maxHeartbeats 1000000 in
theorem read_out (d : Nat) (F : List Nat) (D : DS) (p : Int) (w : World) (h : Disk w d F D) (hf : D.failed = false) (hp : thereB D p = false) :
    Calls Try.prog 36 #[.pointer (some ⟨d, 0, none⟩), .int .i64 p] w (ReadR w D p) := by
  have hth := there_c d F D p w h
  obtain ⟨gv, pv, h⟩ := h
  obtain ⟨c0, c1, c2, c3, f0, f1, f2, f3⟩ := h.cells
  have hr : dRead D p = ([], 2) := by unfold dRead; rw [if_neg (by simp [hf]), if_neg (by simp [hp])]
  rw [hf] at c3
  rw [hp] at hth
  have HR := hide hr
  clear h hf hr hp
  go_enter Try.func36, Try.ntmps36
  go_wp2_with fail
  refine hth.mono ?_
  rintro e w1 ⟨rfl, rfl⟩
  clear hth
  go_wp2_with fail
  go_ret2
  exact ⟨.slice none 0 0, by rw [HR.out]; rfl, by rw [HR.out]; exact Bs.nil _, (fun j hj => by cases hj), Below.refl _ _⟩

set_option maxRecDepth 100000 in
set_option maxHeartbeats 4000000 in
theorem read_ok (d : Nat) (F : List Nat) (D : DS) (p : Nat) (w : World) (h : Disk w d F D) (hf : D.failed = false) (hp : p < D.pages.length) :
    Calls Try.prog 36 #[.pointer (some ⟨d, 0, none⟩), .int .i64 p] w (ReadR w D p) := by
  have hrd : dRead D p = (content D p, 0) := by unfold dRead; rw [if_neg (by simp [hf]), if_pos (by simp [thereB]; omega)]; rfl
  have hlt : ∀ j ∈ F, j < w.heap.size := by obtain ⟨gv, pv, h⟩ := h; exact h.lt
  have H := hide h
  obtain ⟨gv, pv, hdk⟩ := h
  obtain ⟨c0, c1, c2, c3, f0, f1, f2, f3⟩ := hdk.cells
  rw [hf] at c3
  have HRD := hide hrd
  clear hdk hrd hf
  have hz := zero_page
  have htb : thereB D p = true := by simp [thereB]; omega
  refine (callsIn_wide (n := 3)).1 ?_
  refine callsIn_of_wp_marks Try.func36 rfl trivial ?_ rfl
  simp only [Try.ntmps36, List.size_toArray, List.length_cons, List.length_nil, Nat.reduceAdd, Nat.reduceSub, Array.replicate_succ, Array.replicate_zero, List.push_toArray, List.append_toArray, List.nil_append, List.cons_append]
  have hth := there_c d F D p w H.out
  rw [htb] at hth
  gi_wp2_with fail
  refine ⟨trivial, ?_⟩
  refine (callsIn_wide.2 hth).mono ?_
  rintro e w' ⟨rfl, rfl⟩
  clear hth
  gi_wp2_with fail
  refine ⟨trivial, ?_⟩
  refine (contents_in Fence.wide _ trivial rfl d p _).mono ?_
  rintro e w' ⟨rfl, rfl⟩
  gi_wp2_with fail
  obtain ⟨W0, hW0⟩ : ∃ W0, W0 = ((w.alloc (.cells zpg 79)).alloc (Obj.cells #[.pointer (some ⟨d, 0, none⟩)] 24)).alloc (Obj.cells #[.int .i64 (p : Int)] 3) := ⟨_, rfl⟩
  have hsz : W0.heap.size = w.heap.size + 3 := by rw [hW0]; simp
  have kw0 : Below w.heap.size w W0 := by rw [hW0]; exact (((Below.refl _ w).alloc (Nat.le_refl _) _).alloc (by simp) _).alloc (by simp; omega) _
  have hb1 : W0.cell? ⟨w.heap.size + 1, 0, none⟩ = some (.pointer (some ⟨d, 0, none⟩)) := by rw [hW0]; simp [go_sem]
  have hb2 : W0.cell? ⟨w.heap.size + 1 + 1, 0, none⟩ = some (.int .i64 (p : Int)) := by rw [hW0]; simp [go_sem]
  have hblk : Blk W0 w.heap.size 79 zpg := by
    rw [hW0]; exact (Blk.new w 79 zpg).touch (S := []) (((Touch.refl [] _).alloc _).alloc _) (by simp)
  have hL0 : W0.rangeAt w.heap.size 0 (lastc []) := fun j u hj => by
    rw [Nat.zero_add, hblk.cell]
    simpa [lastc] using hj
  have hT0 : W0.there w.heap.size 0 128 := fun j hj => by
    rw [Nat.zero_add, hblk.cell j, hblk.froz j]
    have := zpg_size
    exact ⟨by rw [Array.getElem?_eq_getElem (by omega)]; rfl, rfl⟩
  rw [← hW0]
  have hd0 := H.out.step kw0
  clear hW0 hblk c0 c1 c2 c3 f0 f1 f2 f3
  refine wpIn_rangeFunc_ownH (w0 := W0) rfl (by omega) (gf := 58) (lb := #[.pointer (some ⟨w.heap.size + 1, 0, none⟩), .pointer (some ⟨w.heap.size + 1 + 1, 0, none⟩)]) rfl trivial (enters_of Try.func58 (by kernel_rfl) rfl)
    (encs := fun x : Pg => #[pgv x.1]) (Kp := Hole (w.heap.size + 3) w.heap.size) (S := fun xs => xs.map (·.1) = hist D p) (Sp := fun _ => True) (N := (hist D p).length)
    (fun l J Jx W hW hJ hJx hY h0 => cont1_in Fence.wide _ trivial rfl (by omega) l (w.heap.size + 1) (w.heap.size + 1 + 1) (w.heap.size + 3) w.heap.size d F D p hp J Jx W (hd0.step hW) (fun j hj => by have := hlt j hj; omega) (by omega) (by omega) (by have := hW.size; omega)
      ((hW.cell (p := ⟨w.heap.size + 1, 0, none⟩) (by show w.heap.size + 1 < _; omega)).trans hb1) ((hW.cell (p := ⟨w.heap.size + 1 + 1, 0, none⟩) (by show w.heap.size + 1 + 1 < _; omega)).trans hb2) hJ hY h0)
    Hole.t (fun W l o o' hl h1 h2 h3 => Hole.b (w := W0) (by omega) W l o o' hl h1 h2 h3) (Below.refl _ _) (fun _ => rfl)
    (RdI W0 w.heap.size)
    (fun _ _ _ => False) (rdI_own hsz) (fun _ _ _ _ _ hs _ _ => hs) ⟨⟨hL0, hT0⟩, Hole.refl _ _ _⟩
    (fun x a' W => ∃ Bx, w.heap.size + 3 ≤ Bx ∧ Blk W Bx 79 (x.1.map bv).toArray ∧ a' = {
      tmps := #[.pointer (some ⟨d, 0, none⟩), .int .i64 p, undef, undef, .slice none 0 0, .int .i64 0, .pointer (some ⟨w.heap.size, 0, none⟩), .pointer (some ⟨Bx, 0, none⟩), .bool false,
        .pointer (some ⟨d, 0, none⟩), .pointer (some ⟨d, 0, none⟩), .pointer (some ⟨d, 3, none⟩), .bool false, .bool false, .pointer (some ⟨d, 0, none⟩), .int .i64 p, .bool true, .bool false, .pointer (some ⟨d, 0, none⟩), .int .i64 p,
        .func (.func 58) #[] #[.pointer (some ⟨w.heap.size + 1, 0, none⟩), .pointer (some ⟨w.heap.size + 1 + 1, 0, none⟩)], pgv x.1, undef, undef], defers := [] })
    ?hAx ?assign ?body ?done ?stop
  case hAx =>
    rintro x a' s W W' row ⟨Bx, hx, hblk, ha⟩ hg hr
    refine ⟨Bx, hx, (hg.block Bx hblk.lt (fun e => ?_)).trans hblk, ha⟩
    obtain ⟨o, ho, hc⟩ := (hr _ e.symm).2
    rw [hblk] at ho
    cases ho
    cases hc
  case assign =>
    rintro l pre x W K ⟨⟨h1, h2⟩, h3⟩ hK
    have HST : Hid ((W.alloc (.cells zpg 79)).setCells W.heap.size 0 (x.1.map bv).toArray.toList = W.alloc (.cells (x.1.map bv).toArray 79)) := hide (setPage_new W (x.1.map bv) (by rw [List.length_map, x.2]) (hone_page x.1))
    have HTH : Hid ((W.alloc (.cells zpg 79)).there W.heap.size 0 (x.1.map bv).toArray.size) := hide (there_page W (by simp [x.2]))
    have HK := hide hK
    have HSZ := hide h3.size
    unfold pgv
    gi_wp2_with (refine wpListIn_store_mid rfl 79 (.tmp 7) (.tmp 21) rfl W.heap.size 0 (x.1.map bv).toArray rfl rfl HTH.out (by rw [info_arr]; simp [x.2]) (all_oneCell_toArray (hone_page x.1)) ?_; rw [HST.out])
    have hI : RdI W0 w.heap.size pre W := ⟨⟨h1, h2⟩, h3⟩
    exact HK.out _ _ ((KeepsOthers.alloc _ _).from _) (Hole.below ((Below.refl _ W).alloc (by have := HSZ.out; omega) _)) ((rdI_own hsz).alloc _ hI) ⟨W.heap.size, by have := HSZ.out; omega, Blk.new W _ _, rfl⟩
  case body =>
    rintro l pre x a' W hl ⟨r, hr⟩ ⟨⟨h1, h2⟩, h3⟩ ⟨Bx, hBx, hblk, rfl⟩ hlen
    have HRB : Hid (W.rangeAt Bx 0 (x.1.map bv)) := hide (fun j u hj => by rw [Nat.zero_add, hblk.cell]; simpa using hj)
    have HTH : Hid (W.there w.heap.size 0 (x.1.map bv).toArray.size) := hide (by simpa [x.2] using h2)
    have HI := hide h3
    have H2 := hide h2
    clear hr h1 h2 h3 hblk
    gi_wp2_with (first
      | (refine wpListIn_load_mid rfl 79 (.tmp 7) rfl Bx 0 rfl (x.1.map bv) _ HRB.out Try.underlying79 rfl (by rw [List.length_map, x.2]; exact info_arr) ?_)
      | (refine wpListIn_store_mid rfl 79 (.tmp 6) (.tmp 22) rfl w.heap.size 0 (x.1.map bv).toArray rfl rfl HTH.out (by rw [info_arr]; simp [x.2]) (all_oneCell_toArray (hone_page x.1)) ?_))
    have hW0W := HI.out.size
    refine ⟨keeps_setCells W 0 _ (by omega), (Hole.refl _ _ W).setCells 0 _ (by omega), ⟨?_, World.there_setCells H2.out _ _ _⟩, HI.out.trans ((Hole.refl _ _ W).setCells 0 _ (by omega))⟩
    rw [lastc_snoc]
    exact World.rangeAt_setCells_same W w.heap.size 0 (x.1.map bv).toArray.toList (by simpa using HTH.out)
  case done =>
    rintro D0 xs W hD hS ⟨⟨h1, h2⟩, h3⟩ hK
    have hsl := run_whole w.heap.size
    have H1 := hide h1
    have H3 := hide h3
    have HS := hide hS
    clear h1 h2 h3 hS
    gi_wp2_with fail
    refine ⟨by simp, .inl ⟨_, _, rfl, run_takeDeferred hK, ?_⟩⟩
    refine ⟨_, results_tmp2 rfl _ _ _, .slice (some ⟨w.heap.size, 0, none⟩) 128 128, ?_, ?_, ?_, ?_⟩
    · rw [HRD.out]; rfl
    · rw [HRD.out]
      have hl : (content D p).length = 128 := by
        have := lastc_len xs
        rw [lastc_all D p xs HS.out, List.length_map] at this; exact this
      refine ⟨some ⟨w.heap.size, 0, none⟩, 128, by rw [hl], by rw [hl]; exact Nat.le_refl _, by unfold maxLen; omega, fun _ => ⟨w.heap.size, 0, rfl, ?_, fun j hj => ?_⟩⟩
      · have := H3.out.size
        have := (grownBy_putObj' W D0 (.deferred none)).size
        omega
      · have e : (W.putObj D0 (.deferred none)).cell? ⟨w.heap.size, 0 + j, none⟩ = W.cell? ⟨w.heap.size, 0 + j, none⟩ := World.cell?_of_block ((grownBy_putObj' W D0 _).block w.heap.size (by have := H3.out.size; omega) (by intro e; injection e with e; omega))
        refine e.trans (H1.out j _ ?_)
        rw [lastc_all D p xs HS.out, List.getElem?_map, List.getElem?_eq_getElem hj]; rfl
    · intro j hj
      have e : w.heap.size = j := by injection hj
      omega
    · have k1 : Below w.heap.size w W := kw0.trans ⟨H3.out.os, H3.out.tape, H3.out.output, H3.out.size, fun k hk => H3.out.block k (by omega) (by omega)⟩
      exact k1.grown (grownBy_putObj' W D0 _) k1.size (fun k e => by cases e; omega)
  case stop =>
    rintro D0 c pre W hD _ h hK
    exact h.elim

theorem read_c (d : Nat) (F : List Nat) (D : DS) (p : Int) (w : World) (h : Disk w d F D) :
    Calls Try.prog 36 #[.pointer (some ⟨d, 0, none⟩), .int .i64 p] w (ReadR w D p) := by
  cases hf : D.failed with
  | true => exact read_failed d F D p w h hf
  | false =>
    cases ht : thereB D p with
    | false => exact read_out d F D p w h hf ht
    | true =>
      obtain ⟨h0, h1⟩ := (thereB_iff D p).1 ht
      obtain ⟨q, rfl⟩ : ∃ q : Nat, p = q := ⟨p.toNat, by omega⟩
      exact read_ok d F D q w h hf (by omega)
end Go.Proofs.Ytpadgkkeihhneaa
/- Clone. -/
namespace Go.Proofs.Ytpadgkkeihhneaa
set_option maxRecDepth 100000
set_option linter.unusedSimpArgs false
set_option linter.unusedVariables false
open Go.ChangeShapes Go.WideShapes Go.ChangeAt Go.RowKit
set_option linter.unusedVariables false
set_option linter.unusedSimpArgs false

theorem wpList_append_any {P : Program} {w : World} {ops : Array Oper} {rest : List Oper} {o : Oper} {a : Act} {Q : Exit → Act → World → Prop} (hgd : o.guard = none) (s x : Operand) (t : TypeId)
    (ho : o.op = .call { callee := .builtin .append, args := #[s, x], argTypes := #[t, t] })
    (base : Nat) (e : TypeId) (i : TypeInfo) (z : Value) (size bytes : Nat) (ht : P.underlying t = some (.slice e)) (hi : P.info? e = some i) (hz : i.zero = some z)
    (hsize : i.size = size) (hby : i.bytes = bytes) (hzs : z.cells.size = size) (hsz : 0 < size)
    (v : Value) (n : Nat) (xs : List Value) (hs : a.eval s = v) (hown : w.ownsRow base e size v n xs)
    (ad : Addr) (m c : Nat) (news : List Value) (hx : a.eval x = .slice (some ad) m c) (hl : news.length = m * size) (hnews : ∀ j u, news[j]? = some u → w.cell? (ad.add j) = some u) (h1 : ∀ u ∈ news, u.oneCell' = true)
    (h63 : n + m ≤ maxLen) (hbytes : (n + m) * bytes ≤ 140737488355328) (hbase : base ≤ w.heap.size)
    (h : ∀ v' w', w'.ownsRow base e size v' (n + m) (xs ++ news) → w.grownBy w' v.ownBlock → wpList P ops Q rest (a.put o.dst v') w') : wpList P ops Q (o :: rest) a w := by
  refine wpList_plain hgd fun K hK => ?_
  obtain ⟨v', w', hr, h2, h3, _, _⟩ := run_append_own_at (P := P) w base t o.type e i z size bytes ht hi hz hsize hby hzs hsz v n xs hown ad m c news hl hnews h1 h63 hbytes hbase
  unfold Oper.wp execOp
  simp only [ho, resolve, invoke, builtin, Sem.run_bind, Sem.run_pure, Result.andThen_ok, List.map_toArray, List.map_cons, List.map_nil, hs, hx, hr]
  exact hK _ _ (h v' w' h2 h3)
/-- A copy of a row in new memory. -/
def FreshRow (w : World) (t : TypeId) (size n : Nat) (cs : List Value) (e : Ending) (w' : World) : Prop := ∃ v, e = .returned v ∧ w'.ownsRow w.heap.size t size v n cs ∧ Below w.heap.size w w'
theorem ownsRow_low {w : World} {base : Nat} {t : TypeId} {size : Nat} {v : Value} {n : Nat} {cs : List Value} (h : w.ownsRow base t size v n cs) : Row w t size v n cs := by
  refine ⟨h.1, ?_⟩
  rcases h.2 with hn | ⟨g, cap, cur, rfl, hb, rest⟩
  · exact .inl hn
  · exact .inr ⟨g, cap, cur, rfl, Nat.zero_le _, rest⟩
theorem ownsRow_empty (w : World) (base : Nat) (t : TypeId) (size : Nat) (h : base ≤ w.heap.size) : (w.alloc (.cells #[] t)).ownsRow base t size (.slice (some ⟨w.heap.size, 0, none⟩) 0 0) 0 [] :=
  ⟨by simp, .inr ⟨w.heap.size, 0, #[], rfl, h, heap_alloc_new w _, Nat.le_refl _, by unfold maxLen; omega, by simp, by simp⟩⟩
theorem info_arr3 : (Try.prog.info? 79).map (fun i => (i.zero, i.size, i.bytes)) = some (some (.agg (Array.replicate 128 (.int .u8 0))), 128, 128) := info_page

theorem pendCells_len (ws : List (Nat × List UInt8)) (h : ∀ x ∈ ws, x.2.length = 128) : (pendCells ws).length = ws.length * 129 := by
  induction ws with
  | nil => rfl
  | cons x ws ih =>
    have e : pendCells (x :: ws) = wcells x ++ pendCells ws := by simp [pendCells]
    rw [e, List.length_append, ih (fun y hy => h y (by simp [hy])), wcells_len x.1 x.2 (h x (by simp)), List.length_cons]; omega
theorem hone_pend (ws : List (Nat × List UInt8)) : ∀ u ∈ pendCells ws, u.oneCell' = true := fun u hu => by
  unfold pendCells at hu
  obtain ⟨l, hl, hul⟩ := List.mem_flatten.1 hu
  obtain ⟨x, _, rfl⟩ := List.mem_map.1 hl
  exact hone_wcells x.1 x.2 u hul

end Go.Proofs.Ytpadgkkeihhneaa
/- The reference's disk is a value: two slices, the fuse, the mark. -/
namespace Go.Proofs.Ytpadgkkeihhneaa
set_option maxRecDepth 100000
set_option linter.unusedSimpArgs false
set_option linter.unusedVariables false
open Go.ChangeShapes Go.WideShapes Go.ChangeAt Go.RowKit
set_option linter.unusedVariables false
set_option linter.unusedSimpArgs false

/-- The blocks that a value takes up are there, and none is F's. -/
def Apart (w : World) (F : List Nat) (v : Value) : Prop := ∀ j, v.ownBlock = some j → j < w.heap.size ∧ j ∉ F
theorem Apart.touch {w w' : World} {F F' S : List Nat} {v : Value} (h : Apart w F v) (k : Touch S w w') (hF : ∀ j ∈ F', j ∈ F ∨ w.heap.size ≤ j) : Apart w' F' v := fun j hj => by
  obtain ⟨h1, h2⟩ := h j hj
  refine ⟨Nat.lt_of_lt_of_le h1 k.size, fun hm => ?_⟩
  rcases hF j hm with e | e
  · exact h2 e
  · omega
theorem Apart.new {w w' : World} {F : List Nat} {v : Value} (hF : ∀ j ∈ F, j < w.heap.size) (h : ∀ j, v.ownBlock = some j → w.heap.size ≤ j ∧ j < w'.heap.size) : Apart w' F v := fun j hj => by
  obtain ⟨h1, h2⟩ := h j hj
  exact ⟨h2, fun hm => by have := hF j hm; omega⟩

structure Pgs (w : World) (F : List Nat) (vs : List Value) (ps : List (List UInt8)) : Prop where
  len : vs.length = ps.length
  at_ : ∀ (i : Nat) (v : Value) (p : List UInt8), vs[i]? = some v → ps[i]? = some p → Bs w v p ∧ Apart w F v
theorem Pgs.touch {w w' : World} {F F' : List Nat} {vs : List Value} {ps : List (List UInt8)} (h : Pgs w F vs ps) (k : Touch F w w') (hF : ∀ j ∈ F', j ∈ F ∨ w.heap.size ≤ j) : Pgs w' F' vs ps :=
  ⟨h.len, fun i v p h1 h2 => ⟨(h.at_ i v p h1 h2).1.touch k fun j hj => ((h.at_ i v p h1 h2).2 j hj).2, (h.at_ i v p h1 h2).2.touch k hF⟩⟩
theorem Pgs.nil (w : World) (F : List Nat) : Pgs w F [] [] := ⟨rfl, fun i v p h => by simp at h⟩
theorem Pgs.snoc {w : World} {F : List Nat} {vs : List Value} {ps : List (List UInt8)} {v : Value} {p : List UInt8} (h : Pgs w F vs ps) (h1 : Bs w v p) (h2 : Apart w F v) : Pgs w F (vs ++ [v]) (ps ++ [p]) := by
  refine ⟨by simp [h.len], fun i x q hx hq => ?_⟩
  have hl := h.len
  rcases Nat.lt_trichotomy i vs.length with hi | hi | hi
  · rw [List.getElem?_append_left hi] at hx
    rw [List.getElem?_append_left (by omega)] at hq
    exact h.at_ i x q hx hq
  · subst hi
    rw [List.getElem?_concat_length] at hx
    rw [hl, List.getElem?_concat_length] at hq
    cases hx; cases hq
    exact ⟨h1, h2⟩
  · rw [List.getElem?_eq_none (by simp; omega)] at hx
    cases hx
theorem Pgs.set {w : World} {F : List Nat} {vs : List Value} {ps : List (List UInt8)} {v : Value} {p : List UInt8} (h : Pgs w F vs ps) (i : Nat) (h1 : Bs w v p) (h2 : Apart w F v) : Pgs w F (vs.set i v) (ps.set i p) := by
  refine ⟨by simp [h.len], fun j x q hx hq => ?_⟩
  rw [List.getElem?_set] at hx hq
  by_cases hj : i = j
  · subst hj
    rw [if_pos rfl] at hx hq
    split at hx
    · split at hq
      · cases hx; cases hq; exact ⟨h1, h2⟩
      · cases hq
    · cases hx
  · rw [if_neg hj] at hx hq
    exact h.at_ j x q hx hq

/-- The cells of pending writes: a page's number and a slice each. -/
def pc (xs : List (Nat × Value)) : List Value := (xs.map fun x => [.int .i64 x.1, x.2]).flatten
theorem pc_len (xs : List (Nat × Value)) : (pc xs).length = xs.length * 2 := by
  induction xs with
  | nil => rfl
  | cons x xs ih =>
    have e : pc (x :: xs) = [.int .i64 x.1, x.2] ++ pc xs := by simp [pc]
    rw [e, List.length_append, ih]; simp; omega
theorem pc_snoc (xs : List (Nat × Value)) (x : Nat × Value) : pc (xs ++ [x]) = pc xs ++ [.int .i64 x.1, x.2] := by simp [pc]
theorem pc_at (xs : List (Nat × Value)) (i : Nat) (x : Nat × Value) (h : xs[i]? = some x) : (pc xs)[i * 2]? = some (.int .i64 x.1) ∧ (pc xs)[i * 2 + 1]? = some x.2 := by
  induction xs generalizing i with
  | nil => simp at h
  | cons y xs ih =>
    have e : pc (y :: xs) = .int .i64 y.1 :: y.2 :: pc xs := by simp [pc]
    cases i with
    | zero => simp at h; subst h; rw [e]; simp
    | succ i =>
      have := ih i (by simpa using h)
      rw [e, show (i + 1) * 2 = i * 2 + 1 + 1 by omega]
      simpa using this
structure Pds (w : World) (F : List Nat) (xs : List (Nat × Value)) (ws : List (Nat × List UInt8)) : Prop where
  len : xs.length = ws.length
  at_ : ∀ (i : Nat) (x : Nat × Value) (y : Nat × List UInt8), xs[i]? = some x → ws[i]? = some y → x.1 = y.1 ∧ Bs w x.2 y.2 ∧ Apart w F x.2
theorem Pds.touch {w w' : World} {F F' : List Nat} {xs : List (Nat × Value)} {ws : List (Nat × List UInt8)} (h : Pds w F xs ws) (k : Touch F w w') (hF : ∀ j ∈ F', j ∈ F ∨ w.heap.size ≤ j) : Pds w' F' xs ws :=
  ⟨h.len, fun i v p h1 h2 => ⟨(h.at_ i v p h1 h2).1, (h.at_ i v p h1 h2).2.1.touch k fun j hj => ((h.at_ i v p h1 h2).2.2 j hj).2, (h.at_ i v p h1 h2).2.2.touch k hF⟩⟩
theorem Pds.nil (w : World) (F : List Nat) : Pds w F [] [] := ⟨rfl, fun i v p h => by simp at h⟩
theorem Pds.snoc {w : World} {F : List Nat} {xs : List (Nat × Value)} {ws : List (Nat × List UInt8)} {x : Nat × Value} {y : Nat × List UInt8} (h : Pds w F xs ws) (h0 : x.1 = y.1) (h1 : Bs w x.2 y.2) (h2 : Apart w F x.2) : Pds w F (xs ++ [x]) (ws ++ [y]) := by
  refine ⟨by simp [h.len], fun i a b hx hq => ?_⟩
  have hl := h.len
  rcases Nat.lt_trichotomy i xs.length with hi | hi | hi
  · rw [List.getElem?_append_left hi] at hx
    rw [List.getElem?_append_left (by omega)] at hq
    exact h.at_ i a b hx hq
  · subst hi
    rw [List.getElem?_concat_length] at hx
    rw [hl, List.getElem?_concat_length] at hq
    cases hx; cases hq
    exact ⟨h0, h1, h2⟩
  · rw [List.getElem?_eq_none (by simp; omega)] at hx
    cases hx

def rv (dv pv : Value) (D : DS) : Value := .agg #[dv, pv, .int .i64 D.fuse, .bool D.failed]
theorem below_two (w : World) (o o' : Obj) : Below w.heap.size w ((w.alloc o).alloc o') := ((Below.refl _ w).alloc (Nat.le_refl _) _).alloc (by simp) _
/-- A call that hands back the same two slices. -/
def Val2 (w : World) (A : Option Addr) (n c : Nat) (B : Option Addr) (m b : Nat) (D : DS) (e : Ending) (w' : World) : Prop := e = .returned (rv (.slice A n c) (.slice B m b) D) ∧ Below w.heap.size w w'

end Go.Proofs.Ytpadgkkeihhneaa
/- The reference's mixed. -/
namespace Go.Proofs.Ytpadgkkeihhneaa
set_option maxRecDepth 100000
set_option linter.unusedSimpArgs false
set_option linter.unusedVariables false
open Go.ChangeShapes Go.WideShapes Go.ChangeAt Go.RowKit
set_option linter.unusedVariables false
set_option linter.unusedSimpArgs false

/-- append(v, x...) of bytes at a step of a region. -/
theorem step_append_bs {w : World} {ops : Array Oper} {o : Oper} {a : Act} {K : Act → World → Prop} {Q : Exit → Act → World → Prop} {E : Prop} (hgd : o.guard = none) (s x : Operand)
    (ho : o.op = .call { callee := .builtin .append, args := #[s, x], argTypes := #[59, 59] }) (base : Nat) {v vx : Value} {l m : List UInt8}
    (hs : a.eval s = v) (hv : Ow w base v l) (hx : a.eval x = vx) (hm : Bs w vx m) (hlen : l.length + m.length ≤ 140737488355328) (hbase : base ≤ w.heap.size)
    (h : ∀ v' w', Ow w' base v' (l ++ m) → w.grownBy w' v.ownBlock → (v'.ownBlock = v.ownBlock ∨ v'.ownBlock = some w.heap.size) → K (a.put o.dst v') w') :
    if Region.wanted o (yielded ops a.tmps) = true then Oper.wp Try.prog o a w K Q else E := by
  have hw : Region.wanted o (yielded ops a.tmps) = true := by simp [Region.wanted, hgd]
  rw [if_pos hw]
  obtain ⟨v', w', h1, h2, h3, h4⟩ := run_append_bs base o.type hv hm hlen hbase
  unfold Oper.wp execOp
  simp only [ho, resolve, invoke, builtin, Sem.run_bind, Sem.run_pure, Result.andThen_ok, List.map_toArray, List.map_cons, List.map_nil, hs, hx, h1]
  exact h v' w' h2 h3 h4
theorem Ow.empty (w : World) : Ow (w.alloc (.cells #[] 5)) w.heap.size (.slice (some ⟨w.heap.size, 0, none⟩) 0 0) [] := Ow.made [] #[] rfl (Nat.le_refl _) (by simp)

theorem Ow.empty1 (w : World) (o : Obj) (base : Nat) (hb : base ≤ w.heap.size + 1) : Ow ((w.alloc o).alloc (.cells #[] 5)) base (.slice (some ⟨w.heap.size + 1, 0, none⟩) 0 0) [] := by
  have h := Ow.made (w := w.alloc o) (base := base) [] #[] rfl (by simpa using hb) (by simp)
  rw [World.size_alloc] at h
  exact h

theorem Row.head {w : World} {t : TypeId} {size : Nat} {A : Option Addr} {n c : Nat} {cs : List Value} (h : Row w t size (.slice A n c) n cs) (hn : 0 < n) :
    ∃ g, A = some ⟨g, 0, none⟩ ∧ g < w.heap.size ∧ ∀ j, j < n * size → w.cell? ⟨g, j, none⟩ = cs[j]? ∧ w.frozen? ⟨g, j, none⟩ = false := by
  obtain ⟨hl, ⟨hv, h0⟩ | ⟨g, cap, cur, hv, hb, hh, hn2, hm2, hs2, ht2⟩⟩ := id h
  · omega
  · obtain ⟨rfl, rfl⟩ : A = some ⟨g, 0, none⟩ ∧ c = cap := by injection hv with e1 e2 e3; exact ⟨e1, e3⟩
    exact ⟨g, rfl, (World.ownsRow.lt h g rfl).2, fun j hj => ⟨World.ownsRow.cellAt h j hj, World.ownsRow.frozenAt h j⟩⟩
theorem Bs.form2 {w : World} {v : Value} {l : List UInt8} (h : Bs w v l) : ∃ A m c, v = .slice A m c := by obtain ⟨A, c, e, _⟩ := h; exact ⟨A, _, c, e⟩

/-- What the loop of Read has found. -/
def lastP (D : DS) (p k : Nat) : List UInt8 := ((D.pages.getD p [] :: ((D.pend.take k).filter (fun w => w.1 == p)).map (·.2)).getLast?).getD []
theorem lastP_zero (D : DS) (p : Nat) : lastP D p 0 = D.pages.getD p [] := by simp [lastP]
theorem lastP_all (D : DS) (p : Nat) : lastP D p D.pend.length = content D p := by unfold lastP content hist; rw [List.take_length]
theorem lastP_succ (D : DS) (p k : Nat) (h : k < D.pend.length) : lastP D p (k + 1) = if (D.pend[k]).1 = p then (D.pend[k]).2 else lastP D p k := by
  unfold lastP
  rw [List.take_succ_eq_append_getElem h, List.filter_append]
  by_cases hp : (D.pend[k]).1 = p
  · rw [if_pos hp]
    simp only [List.filter_cons, List.filter_nil, hp, beq_self_eq_true, if_true, List.map_append, List.map_cons, List.map_nil]
    rw [← List.cons_append, List.getLast?_append]
    simp
  · rw [if_neg hp]
    have : ((D.pend[k]).1 == p) = false := by simpa using hp
    simp only [List.filter_cons, List.filter_nil, this, List.append_nil]
    simp

/-- A slice of bytes and a code; nothing that was there has turned. -/
def RGot (w : World) (r : List UInt8 × Int) (e : Ending) (w' : World) : Prop := ∃ v, e = .returned (.tuple #[v, .int .i64 r.2]) ∧ Ow w' w.heap.size v r.1 ∧ Below w.heap.size w w'

end Go.Proofs.Ytpadgkkeihhneaa
/- The reference's Put. -/
namespace Go.Proofs.Ytpadgkkeihhneaa
set_option maxRecDepth 100000
set_option linter.unusedSimpArgs false
set_option linter.unusedVariables false
open Go.ChangeShapes Go.WideShapes Go.ChangeAt Go.RowKit
set_option linter.unusedVariables false
set_option linter.unusedSimpArgs false

/-- append(v, x...): v the call's own, x a row that is there (or nil). -/
theorem run_append_row {P : Program} {w : World} (base b2 : Nat) (t ty e : TypeId) (i : TypeInfo) (z : Value) (size bytes : Nat) (ht : P.underlying t = some (.slice e)) (hi : P.info? e = some i) (hz : i.zero = some z)
    (hsize : i.size = size) (hby : i.bytes = bytes) (hzs : z.cells.size = size) (hsz : 0 < size) {v x : Value} {n m : Nat} {xs news : List Value} (hv : w.ownsRow base e size v n xs) (hx : w.ownsRow b2 e size x m news)
    (h1 : ∀ u ∈ news, u.oneCell' = true) (h63 : n + m ≤ maxLen) (hbytes : (n + m) * bytes ≤ 140737488355328) (hbase : base ≤ w.heap.size) :
    ∃ v' w', (Builtin.append_ #[t, t] ty #[v, x]).run P w = .ok v' w' ∧ w'.ownsRow base e size v' (n + m) (xs ++ news) ∧ w.grownBy w' v.ownBlock ∧ (v'.ownBlock = v.ownBlock ∨ v'.ownBlock = some w.heap.size) := by
  have hx2 := hx.2
  rcases hx2 with ⟨rfl, rfl⟩ | ⟨g, cap, cur, rfl, hg, hh, hn, hm, hs, htk⟩
  · have hnn : news = [] := List.eq_nil_of_length_eq_zero (by rw [hx.1, Nat.zero_mul])
    subst hnn
    refine ⟨v, w, ?_, by simpa using hv, grown_refl _ _, .inl rfl⟩
    obtain ⟨_, ⟨rfl, _⟩ | ⟨g, cap, cur, rfl, _, _, hn, _⟩⟩ := hv
    · simp [Builtin.append_, run_underlying ht, sizeOf, typeInfo, hi, Builtin.lenOf, Builtin.firstCells]
    · simp [Builtin.append_, run_underlying ht, sizeOf, typeInfo, hi, Builtin.lenOf, Builtin.firstCells, hn, storeCells]
  · obtain ⟨v', w', h4, h5, h6, _, h7⟩ := run_append_own_at (P := P) w base t ty e i z size bytes ht hi hz hsize hby hzs hsz v n xs hv ⟨g, 0, none⟩ m cap news hx.1 (World.ownsRow.cells hx (g := g) rfl) h1 h63 hbytes hbase
    exact ⟨v', w', h4, h5, h6, h7⟩
theorem wpList_append_row {P : Program} {w : World} {ops : Array Oper} {rest : List Oper} {o : Oper} {a : Act} {Q : Exit → Act → World → Prop} (hgd : o.guard = none) (s x : Operand) (t : TypeId)
    (ho : o.op = .call { callee := .builtin .append, args := #[s, x], argTypes := #[t, t] }) (base b2 : Nat) (e : TypeId) (i : TypeInfo) (z : Value) (size bytes : Nat) (ht : P.underlying t = some (.slice e)) (hi : P.info? e = some i) (hz : i.zero = some z)
    (hsize : i.size = size) (hby : i.bytes = bytes) (hzs : z.cells.size = size) (hsz : 0 < size) {v vx : Value} {n m : Nat} {xs news : List Value} (hs : a.eval s = v) (hv : w.ownsRow base e size v n xs) (hvx : a.eval x = vx) (hx : w.ownsRow b2 e size vx m news)
    (h1 : ∀ u ∈ news, u.oneCell' = true) (h63 : n + m ≤ maxLen) (hbytes : (n + m) * bytes ≤ 140737488355328) (hbase : base ≤ w.heap.size)
    (h : ∀ v' w', w'.ownsRow base e size v' (n + m) (xs ++ news) → w.grownBy w' v.ownBlock → (v'.ownBlock = v.ownBlock ∨ v'.ownBlock = some w.heap.size) → wpList P ops Q rest (a.put o.dst v') w') : wpList P ops Q (o :: rest) a w := by
  refine wpList_plain hgd fun K hK => ?_
  obtain ⟨v', w', hr, h2, h3, h4⟩ := run_append_row (P := P) base b2 t o.type e i z size bytes ht hi hz hsize hby hzs hsz hv hx h1 h63 hbytes hbase
  unfold Oper.wp execOp
  simp only [ho, resolve, invoke, builtin, Sem.run_bind, Sem.run_pure, Result.andThen_ok, List.map_toArray, List.map_cons, List.map_nil, hs, hvx, hr]
  exact hK _ _ (h v' w' h2 h3 h4)
theorem step_append_row {P : Program} {w : World} {ops : Array Oper} {o : Oper} {a : Act} {K : Act → World → Prop} {Q : Exit → Act → World → Prop} {E : Prop} (hgd : o.guard = none) (s x : Operand) (t : TypeId)
    (ho : o.op = .call { callee := .builtin .append, args := #[s, x], argTypes := #[t, t] }) (base b2 : Nat) (e : TypeId) (i : TypeInfo) (z : Value) (size bytes : Nat) (ht : P.underlying t = some (.slice e)) (hi : P.info? e = some i) (hz : i.zero = some z)
    (hsize : i.size = size) (hby : i.bytes = bytes) (hzs : z.cells.size = size) (hsz : 0 < size) {v vx : Value} {n m : Nat} {xs news : List Value} (hs : a.eval s = v) (hv : w.ownsRow base e size v n xs) (hvx : a.eval x = vx) (hx : w.ownsRow b2 e size vx m news)
    (h1 : ∀ u ∈ news, u.oneCell' = true) (h63 : n + m ≤ maxLen) (hbytes : (n + m) * bytes ≤ 140737488355328) (hbase : base ≤ w.heap.size)
    (h : ∀ v' w', w'.ownsRow base e size v' (n + m) (xs ++ news) → w.grownBy w' v.ownBlock → (v'.ownBlock = v.ownBlock ∨ v'.ownBlock = some w.heap.size) → K (a.put o.dst v') w') :
    if Region.wanted o (yielded ops a.tmps) = true then Oper.wp P o a w K Q else E := by
  have hw : Region.wanted o (yielded ops a.tmps) = true := by simp [Region.wanted, hgd]
  rw [if_pos hw]
  obtain ⟨v', w', hr, h2, h3, h4⟩ := run_append_row (P := P) base b2 t o.type e i z size bytes ht hi hz hsize hby hzs hsz hv hx h1 h63 hbytes hbase
  unfold Oper.wp execOp
  simp only [ho, resolve, invoke, builtin, Sem.run_bind, Sem.run_pure, Result.andThen_ok, List.map_toArray, List.map_cons, List.map_nil, hs, hvx, hr]
  exact h v' w' h2 h3 h4
/-- A new block of just these cells, as a slice. -/
theorem row_lit (w : World) (base : Nat) (t : TypeId) (size n : Nat) (cs : List Value) (hl : cs.length = n * size) (hn : n ≤ maxLen) (hb : base ≤ w.heap.size) :
    (w.alloc (.cells cs.toArray t)).ownsRow base t size (.slice (some ⟨w.heap.size, 0, none⟩) n n) n cs :=
  ⟨hl, .inr ⟨w.heap.size, n, cs.toArray, rfl, hb, heap_alloc_new w _, Nat.le_refl _, hn, by simpa using hl, by rw [List.take_of_length_le (by simp; omega)]⟩⟩
theorem info_sl : (Try.prog.info? 59).map (fun i => (i.zero, i.size, i.bytes)) = some (some (.slice none 0 0), 1, 24) := by kernel_rfl
theorem Bs.one {w : World} {v : Value} {l : List UInt8} (h : Bs w v l) : v.oneCell' = true := by obtain ⟨A, m, c, rfl⟩ := h.form2; rfl
theorem pc_one {w : World} {F : List Nat} {xs : List (Nat × Value)} {ws : List (Nat × List UInt8)} (h : Pds w F xs ws) : ∀ u ∈ pc xs, u.oneCell' = true := by
  intro u hu
  unfold pc at hu
  obtain ⟨l, hl, hul⟩ := List.mem_flatten.1 hu
  obtain ⟨x, hx, rfl⟩ := List.mem_map.1 hl
  obtain ⟨i, hi⟩ := List.mem_iff_getElem?.1 hx
  have hlt := (List.getElem?_eq_some_iff.1 hi).1
  have := (h.at_ i x _ hi (List.getElem?_eq_getElem (by have := h.len; omega))).2.1
  simp at hul
  rcases hul with rfl | rfl
  · rfl
  · exact this.one
theorem pgs_one {w : World} {F : List Nat} {vs : List Value} {ps : List (List UInt8)} (h : Pgs w F vs ps) : ∀ u ∈ vs, u.oneCell' = true := by
  intro u hu
  obtain ⟨i, hi⟩ := List.mem_iff_getElem?.1 hu
  have hlt := (List.getElem?_eq_some_iff.1 hi).1
  exact (h.at_ i u _ hi (List.getElem?_eq_getElem (by have := h.len; omega))).1.one

theorem blk4 {w : World} {g : Nat} {t : TypeId} {a b c d : Value} (h : Blk w g t #[a, b, c, d]) :
    w.cell? ⟨g, 0, none⟩ = some a ∧ w.cell? ⟨g, 1, none⟩ = some b ∧ w.cell? ⟨g, 2, none⟩ = some c ∧ w.cell? ⟨g, 3, none⟩ = some d ∧
    w.frozen? ⟨g, 0, none⟩ = false ∧ w.frozen? ⟨g, 1, none⟩ = false ∧ w.frozen? ⟨g, 2, none⟩ = false ∧ w.frozen? ⟨g, 3, none⟩ = false :=
  ⟨h.cell 0, h.cell 1, h.cell 2, h.cell 3, h.froz 0, h.froz 1, h.froz 2, h.froz 3⟩
theorem dWrite_pages (D : DS) (p : Int) (data : List UInt8) : (dWrite D p data).1.pages = D.pages := by
  have hb := dBurn_pages D
  unfold dWrite
  split
  · rfl
  split
  · rfl
  split
  · rfl
  split
  · exact hb.1
  · exact hb.1
theorem dWrite_pend (D : DS) (p : Int) (data : List UInt8) (h : (dWrite D p data).2 ≠ 0) : (dWrite D p data).1.pend = D.pend := by
  have hb := dBurn_pages D
  unfold dWrite at h ⊢
  split
  · rfl
  split
  · rfl
  split
  · rfl
  split
  · rename_i h1 h2 h3 h4
    rw [if_neg h1, if_neg h2, if_neg h3, if_pos h4] at h
    exact absurd rfl h
  · exact hb.2
theorem dWrite_zero (D : DS) (p : Int) (data : List UInt8) (h : (dWrite D p data).2 = 0) :
    D.failed = false ∧ data.length = 128 ∧ thereB D p = true ∧ (dBurn D).2 = 0 ∧ dWrite D p data = ({ (dBurn D).1 with pend := (dBurn D).1.pend ++ [(p.toNat, data)] }, 0) := by
  unfold dWrite at h ⊢
  split at h
  · simp at h
  split at h
  · simp at h
  split at h
  · simp at h
  rename_i h1 h2 h3
  split at h
  · rename_i h4
    rw [if_neg h1, if_neg h2, if_neg h3, if_pos h4]
    exact ⟨by simpa using h1, by simpa using h2, by simpa using h3, h4, rfl⟩
  · rename_i h4
    exact absurd h h4
theorem one_rv (A : Option Addr) (n c : Nat) (B : Option Addr) (m b : Nat) (z : Int) (x : Bool) : (#[Value.slice A n c, .slice B m b, .int .i64 z, .bool x] : Array Value).all (·.oneCell') = true := by simp [Value.oneCell']
theorem own_far {v : Value} {n : Nat} {a b : Nat} (h : ∀ j, v.ownBlock = some j → j < n) : v.ownBlock = none ∨ v.ownBlock ≠ (Value.slice (some ⟨n, 0, none⟩) a b).ownBlock := by
  cases hv : v.ownBlock with
  | none => exact .inl rfl
  | some j =>
    right; intro e
    have e : j = n := by injection e
    have := h j hv; omega
theorem one_two (q : Int) (A : Option Addr) (m c : Nat) : ∀ u ∈ [Value.int .i64 q, .slice A m c], u.oneCell' = true := by intro u hu; simp at hu; rcases hu with rfl | rfl <;> rfl
/-- A call that hands back the same two slices and a code. -/
def Val2E (w : World) (A : Option Addr) (n c : Nat) (B : Option Addr) (m b : Nat) (D : DS) (z : Int) (e : Ending) (w' : World) : Prop := e = .returned (.tuple #[rv (.slice A n c) (.slice B m b) D, .int .i64 z]) ∧ Below w.heap.size w w'

end Go.Proofs.Ytpadgkkeihhneaa
/- The reference's settle. -/
namespace Go.Proofs.Ytpadgkkeihhneaa
set_option maxRecDepth 100000
set_option linter.unusedSimpArgs false
set_option linter.unusedVariables false
open Go.ChangeShapes Go.WideShapes Go.ChangeAt Go.RowKit
set_option linter.unusedVariables false
set_option linter.unusedSimpArgs false

theorem Pgs.less {w : World} {F F' : List Nat} {vs : List Value} {ps : List (List UInt8)} (h : Pgs w F vs ps) (hF : ∀ j ∈ F', j ∈ F) : Pgs w F' vs ps := h.touch (Touch.refl _ _) fun j hj => .inl (hF j hj)
theorem Pgs.more {w : World} {F : List Nat} {vs : List Value} {ps : List (List UInt8)} (h : Pgs w F vs ps) {w' : World} (k : Below w.heap.size w w') (o : List Nat) (ho : ∀ j ∈ o, w.heap.size ≤ j) : Pgs w' (o ++ F) vs ps :=
  h.touch (Touch.below k F) fun j hj => by
    rcases List.mem_append.1 hj with hj | hj
    · exact .inr (ho j hj)
    · exact .inl hj
theorem Is.formN {w : World} {v : Value} {l : List Int} (h : Is w v l) : ∃ A m c, v = .slice A m c ∧ Hid (m = l.length) ∧ m ≤ c ∧ c ≤ 9223372036854775807 := by
  obtain ⟨A, c, e, h1, h2, _⟩ := h; exact ⟨A, _, c, e, rfl, h1, by unfold maxLen at h2; omega⟩
theorem Is.at_ {w : World} {A : Option Addr} {m c : Nat} {l : List Int} (h : Is w (.slice A m c) l) (i : Nat) (hi : i < l.length) : ∃ g o, A = some ⟨g, o, none⟩ ∧ w.cell? ⟨g, o + i, none⟩ = some (.int .i64 (l.getD i 0)) := by
  obtain ⟨A', c', e, h1, h2, h3, h4⟩ := h
  obtain ⟨rfl, rfl, rfl⟩ : A = A' ∧ m = l.length ∧ c = c' := by injection e with e1 e2 e3; exact ⟨e1, e2, e3⟩
  obtain ⟨g, o, rfl, hg, hr⟩ := h4 (by omega)
  exact ⟨g, o, rfl, hr i _ (by simp [hi, List.getD])⟩

theorem ownsRow_empty2 (w : World) (o o' : Obj) (base : Nat) (t : TypeId) (size : Nat) (h : base ≤ w.heap.size + 1 + 1) : (((w.alloc o).alloc o').alloc (.cells #[] t)).ownsRow base t size (.slice (some ⟨w.heap.size + 1 + 1, 0, none⟩) 0 0) 0 [] := by
  have k := ownsRow_empty ((w.alloc o).alloc o') base t size (by simpa using h)
  simp only [World.size_alloc] at k
  exact k
theorem own_two {v : Value} {w : World} {o o' o'' : Obj} (h : v.ownBlock = (Value.slice (some ⟨w.heap.size + 1 + 1, 0, none⟩) 0 0).ownBlock ∨ v.ownBlock = some (((w.alloc o).alloc o').alloc o'').heap.size) (j : Nat) (hj : v.ownBlock = some j) : w.heap.size + 2 ≤ j := by
  rcases h with e | e
  · rw [hj] at e
    have e2 : j = w.heap.size + 1 + 1 := by injection e
    omega
  · rw [hj] at e
    have e2 : j = (((w.alloc o).alloc o').alloc o'').heap.size := by injection e
    simp only [World.size_alloc] at e2
    omega
theorem kept3 {w : World} {a t g o : Nat} {v1 v2 v3 : Value} (h : w.cell? ⟨a, 0, none⟩ = some v1 ∧ w.cell? ⟨t, 0, none⟩ = some v2 ∧ w.cell? ⟨t, 1, none⟩ = some v3) (h1 : g ≠ a) (h2 : g ≠ t) (u : Value) :
    (w.setCell ⟨g, o, none⟩ u).cell? ⟨a, 0, none⟩ = some v1 ∧ (w.setCell ⟨g, o, none⟩ u).cell? ⟨t, 0, none⟩ = some v2 ∧ (w.setCell ⟨g, o, none⟩ u).cell? ⟨t, 1, none⟩ = some v3 := by
  have e : ∀ p : Addr, p.block ≠ g → (w.setCell ⟨g, o, none⟩ u).cell? p = w.cell? p := fun p hp => World.cell?_of_block (Below.heap_setCell w ⟨g, o, none⟩ u p.block hp)
  exact ⟨(e ⟨a, 0, none⟩ (Ne.symm h1)).trans h.1, (e ⟨t, 0, none⟩ (Ne.symm h2)).trans h.2.1, (e ⟨t, 1, none⟩ (Ne.symm h2)).trans h.2.2⟩
theorem below_three (w : World) (o o' o'' : Obj) : Below w.heap.size w (((w.alloc o).alloc o').alloc o'') := (below_two w o o').alloc (by simp [Nat.add_assoc]) _
theorem blk_first (w : World) (t : TypeId) (cs : Array Value) (o' o'' : Obj) : Blk (((w.alloc (.cells cs t)).alloc o').alloc o'') w.heap.size t cs := ((Blk.new w t cs).alloc _).alloc _
theorem blk_second (w : World) (t : TypeId) (cs : Array Value) (o o'' : Obj) : Blk (((w.alloc o).alloc (.cells cs t)).alloc o'') (w.heap.size + 1) t cs := by
  have h := Blk.new (w.alloc o) t cs
  rw [World.size_alloc] at h
  exact h.alloc _

end Go.Proofs.Ytpadgkkeihhneaa
/- The reference's Crash, Sync. -/
namespace Go.Proofs.Ytpadgkkeihhneaa
set_option maxRecDepth 100000
set_option linter.unusedSimpArgs false
set_option linter.unusedVariables false
open Go.ChangeShapes Go.WideShapes Go.ChangeAt Go.RowKit
set_option linter.unusedVariables false
set_option linter.unusedSimpArgs false

theorem two_lt {F : List Nat} {w w' : World} (hF : ∀ j ∈ F, j < w.heap.size) (k : w.heap.size + 2 ≤ w'.heap.size) : ∀ j ∈ [w.heap.size, w.heap.size + 1] ++ F, j < w'.heap.size := by
  intro j hj
  simp at hj
  rcases hj with rfl | rfl | hj
  · omega
  · omega
  · have := hF j hj; omega
theorem two_in (F : List Nat) (w : World) : ∀ j ∈ [w.heap.size, w.heap.size + 1] ++ F, j ∈ F ∨ w.heap.size ≤ j := by
  intro j hj
  simp at hj
  rcases hj with rfl | rfl | hj
  · exact .inr (Nat.le_refl _)
  · exact .inr (Nat.le_succ _)
  · exact .inl hj
theorem settleFrom_congr (f g : Nat → Int) : ∀ (ws : List (Nat × List UInt8)) (i : Nat) (ps : List (List UInt8)), (∀ k, i ≤ k → k < i + ws.length → f k = g k) → settleFrom f i ws ps = settleFrom g i ws ps
  | [], _, _, _ => rfl
  | w :: ws, i, ps, h => by
    show settleFrom f (i + 1) ws _ = settleFrom g (i + 1) ws _
    rw [h i (Nat.le_refl _) (by simp), settleFrom_congr f g ws (i + 1) _ (fun k h1 h2 => h k (by omega) (by simp at h2 ⊢; omega))]
theorem dSettle_all (D : DS) : dSettle D (fun i => (List.replicate D.pend.length (128 : Int)).getD i 0) = dSettle D (fun _ => 128) := by
  unfold dSettle
  rw [settleFrom_congr _ (fun _ => 128) D.pend 0 D.pages (fun k _ h => by simp [List.getD, show k < D.pend.length by omega])]
theorem Row.is {w : World} {v : Value} {l : List Int} (h : Row w 3 1 v l.length (l.map (.int .i64 ·))) (hl : ∀ x ∈ l, -9223372036854775808 ≤ x ∧ x ≤ 9223372036854775807) : Is w v l := by
  obtain ⟨hlen, ⟨rfl, h0⟩ | ⟨g, cap, cur, rfl, hb, hh, hn, hm, hs, ht⟩⟩ := id h
  · exact ⟨none, 0, by rw [h0], by omega, by unfold maxLen; omega, hl, fun hp => by omega⟩
  · exact ⟨_, cap, rfl, hn, hm, hl, fun hp => ⟨g, 0, rfl, (World.ownsRow.lt h g rfl).2, fun j u hj => by have := World.ownsRow.cells h (g := g) rfl j u hj; rwa [add_plain] at this⟩⟩
theorem info_int : (Try.prog.info? 3).map (fun i => (i.zero, i.size, i.bytes)) = some (some (.int .i64 0), 1, 8) := by kernel_rfl

end Go.Proofs.Ytpadgkkeihhneaa
/- The reference's New, Contents; the law's contents. -/
namespace Go.Proofs.Ytpadgkkeihhneaa
set_option maxRecDepth 100000
set_option linter.unusedSimpArgs false
set_option linter.unusedVariables false
open Go.ChangeShapes Go.WideShapes Go.ChangeAt Go.RowKit
set_option linter.unusedVariables false
set_option linter.unusedSimpArgs false

/-- The contents of the first k pages, one behind the other. -/
def catTo (D : DS) (k : Nat) : List UInt8 := ((List.range k).map (content D)).flatten
def dContents (D : DS) : List UInt8 := catTo D D.pages.length
theorem catTo_succ (D : DS) (k : Nat) : catTo D (k + 1) = catTo D k ++ content D k := by unfold catTo; rw [List.range_succ]; simp
theorem content_len {D : DS} (h : D.Ok) (i : Nat) (hi : i < D.pages.length) : (content D i).length = 128 := by
  have key : ∀ k, k ≤ D.pend.length → (lastP D i k).length = 128 := by
    intro k hk
    induction k with
    | zero => rw [lastP_zero, List.getD_eq_getElem?_getD, List.getElem?_eq_getElem hi]; exact h.pages _ (List.getElem_mem _)
    | succ k ih =>
      rw [lastP_succ D i k (by omega)]
      split
      · exact (h.pend _ (List.getElem_mem _)).2
      · exact ih (by omega)
  rw [← lastP_all]; exact key _ (Nat.le_refl _)
theorem catTo_len {D : DS} (h : D.Ok) (k : Nat) (hk : k ≤ D.pages.length) : (catTo D k).length = k * 128 := by
  induction k with
  | zero => rfl
  | succ k ih => rw [catTo_succ, List.length_append, ih (by omega), content_len h k (by omega)]; omega

/-- Between two rounds of a loop that gathers the pages' contents. -/
def CtR (w : World) (D : DS) (wx : World) (v3 v4 : Value) (W : World) : Prop :=
  ∃ k : Nat, v4 = .int .i64 k ∧ k ≤ D.pages.length ∧ Ow W wx.heap.size v3 (catTo D k) ∧ Below wx.heap.size wx W

/-- What of the state Contents looks at. -/
def live (D : DS) : DS := { D with fuse := 0, failed := false }
theorem live_ok {D : DS} (h : D.Ok) : (live D).Ok := ⟨h.pages, h.pend, by show -1 ≤ (0 : Int) ∧ (0 : Int) ≤ 9223372036854775807; omega⟩
theorem below_first (w : World) (o : Obj) : Below w.heap.size w (w.alloc o) := (Below.refl _ w).alloc (Nat.le_refl _) _

theorem row_lit1 (w : World) (o : Obj) (base : Nat) (t : TypeId) (size n : Nat) (cs : List Value) (hl : cs.length = n * size) (hn : n ≤ maxLen) (hb : base ≤ w.heap.size) :
    ((w.alloc o).alloc (.cells cs.toArray t)).ownsRow base t size (.slice (some ⟨w.heap.size + 1, 0, none⟩) n n) n cs := by
  have h := row_lit (w.alloc o) base t size n cs hl hn (by rw [World.size_alloc]; omega)
  rw [World.size_alloc] at h
  exact h
theorem one_slice (A : Option Addr) (m c : Nat) : ∀ u ∈ [Value.slice A m c], u.oneCell' = true := by intro u hu; simp at hu; subst hu; rfl
def zpage : List UInt8 := List.replicate 128 0
end Go.Proofs.Ytpadgkkeihhneaa
/- header. -/
namespace Go.Proofs.Ytpadgkkeihhneaa
set_option maxRecDepth 100000
set_option linter.unusedSimpArgs false
set_option linter.unusedVariables false
open Go.ChangeShapes Go.WideShapes Go.ChangeAt Go.RowKit
set_option linter.unusedVariables false
set_option linter.unusedSimpArgs false

theorem Hd.step {w w' : World} {g d : Nat} {F : List Nat} {D : DS} (h : Hd w g d F D) (hb : Below w.heap.size w w') : Hd w' g d F D := ⟨(hb.cell (World.block_lt_of_cell? w _ h.cell)).trans h.cell, h.disk.step hb⟩
theorem Bs.lt {w : World} {v : Value} {l : List UInt8} (h : Bs w v l) (hne : l ≠ []) : ∀ j, v.ownBlock = some j → j < w.heap.size := by
  obtain ⟨A, c, rfl, h1, h2, h3⟩ := h
  obtain ⟨b, off, rfl, hb, _⟩ := h3 (List.length_pos_iff.2 hne)
  intro j hj
  injection hj with hj
  subst hj
  exact hb
/-- A call that hands back a value; what was there has not turned. -/
def Gives (w : World) (v : Value) (e : Ending) (w' : World) : Prop := e = .returned v ∧ Below w.heap.size w w'
theorem content_ok {D : DS} (h : D.Ok) (i : Nat) (hi : i < D.pages.length) : (content D i).length = 128 := content_len h i hi
theorem dRead_ok {D : DS} (hf : D.failed = false) (p : Nat) (hp : p < D.pages.length) : dRead D p = (content D p, 0) := by
  unfold dRead
  rw [hf]
  have : thereB D p = true := (thereB_iff D p).2 ⟨by omega, by omega⟩
  rw [if_neg (by simp), if_pos this]
  rfl
set_option maxHeartbeats 2000000 in
theorem header_bad (g d : Nat) (F : List Nat) (D : DS) (n : Nat) (w : World) (h : Hd w g d F D) (hf : D.failed = true) :
    Calls Try.prog 32 #[.pointer (some ⟨g, 0, none⟩), .int .i64 n] w (Gives w (.tuple #[.int .i64 0, .int .i64 10])) := by
  have hc := h.cell
  have HR := hide (read_c d F D n w h.disk)
  have HD : Hid (dRead D n = ([], 10)) := hide (by unfold dRead; rw [hf]; rfl)
  clear h hf
  go_enter Try.func32, Try.ntmps32
  go_wp2_with fail
  refine HR.out.mono ?_
  rintro e w1 ⟨v1, rfl, hb1, _, hbel⟩
  rw [HD.out] at hb1 ⊢
  obtain ⟨A1, m1, c1, rfl, _, _, _⟩ := hb1.formN
  have HB := hide hbel
  clear hb1 hbel
  go_wp2_with fail
  go_ret2
  exact ⟨rfl, HB.out⟩
theorem hdr_zero {n : Nat} {b : List UInt8} (h : ¬((rd0 b).2 < 2 ^ 40 ∧ (rd0 b).2 % 2 = n ∧ hdrPage (rd0 b).2 = b)) : hdrOf n b = 0 := by unfold hdrOf; rw [if_neg h]
theorem hdr_yes {n : Nat} {b : List UInt8} (h : (rd0 b).2 < 2 ^ 40 ∧ (rd0 b).2 % 2 = n ∧ hdrPage (rd0 b).2 = b) : hdrOf n b = (rd0 b).2 := by unfold hdrOf; rw [if_pos h]
set_option maxHeartbeats 4000000 in
theorem header_c (g d : Nat) (F : List Nat) (D : DS) (n : Nat) (hn : n < 2) (w : World) (h : Hd w g d F D) (hs : D.Sz) (hf : D.failed = false) :
    Calls Try.prog 32 #[.pointer (some ⟨g, 0, none⟩), .int .i64 n] w (Gives w (.tuple #[.int .i64 (hdrOf n (content D n)), .int .i64 0])) := by
  have hc := h.cell
  have HR := hide (read_c d F D n w h.disk)
  have HD : Hid (dRead D n = (content D n, 0)) := hide (dRead_ok hf n (by have := hs.lo; omega))
  have HL : Hid ((content D n).length = 128) := hide (content_ok h.disk.ok n (by have := hs.lo; omega))
  clear h hf hs
  generalize content D n = b at *
  obtain ⟨r, hr⟩ : ∃ r, hdrOf n b = r := ⟨_, rfl⟩
  have HH := hide hr
  rw [hr]
  clear hr
  obtain ⟨zn, hzn⟩ : ∃ z : Int, (n : Int) = z := ⟨_, rfl⟩
  have HN := hide (And.intro hn hzn)
  rw [hzn] at HR HD ⊢
  clear hn hzn
  go_enter Try.func32, Try.ntmps32
  go_wp2_with fail
  refine HR.out.mono ?_
  rintro e w1 ⟨v1, rfl, hb1, _, hbel⟩
  rw [HD.out] at hb1 ⊢
  obtain ⟨A1, m1, c1, rfl, _, _, _⟩ := hb1.formN
  have HB := hide hbel
  have H1 := hide hb1
  clear hb1 hbel HR
  go_wp2_with fail
  refine (newReader_c _ b _ H1.out (by have := HL.out; omega)).mono ?_
  rintro e w2 ⟨rb, kb, rfl, hr, hb2, hge, _⟩
  have HGE := hide (Nat.le_trans HB.out.size hge)
  have HNE : Hid (∀ j, (Value.slice A1 m1 c1).ownBlock = some j → b ≠ [] → j ≠ rb) := hide (fun j hj hne e => by
    have := H1.out.lt hne j hj
    omega)
  replace H1 := hide (H1.out.step hb2)
  replace HB := hide (HB.out.trans (hb2.mono HB.out.size))
  have HR := hide hr
  clear hr hb2 hge
  go_wp2_with fail
  refine (rdNumber_c rb kb b 0 w2 HR.out (by have := HL.out; omega)).mono ?_
  rintro e w3 ⟨rfl, _, ht⟩
  replace H1 := hide (H1.out.touchN ht (fun hne j hj => by simp; exact HNE.out j hj hne))
  replace HB := hide (Below.touch HB.out ht (by simp; exact HGE.out) HB.out.size)
  clear ht HR HNE
  have HLT : Hid ((rd0 b).2 < 2 ^ 64) := hide (gots_lt b 0 (by omega))
  have HRT : Hid ((rNum (b, 0)).2 = (rd0 b).2) := hide rfl
  rw [HRT.out]
  have HY := hide (hdr_yes (n := n) (b := b))
  have HZ := hide (hdr_zero (n := n) (b := b))
  rw [HH.out] at HY HZ
  generalize (rd0 b).2 = t at *
  obtain ⟨zt, hzt⟩ : ∃ z : Int, (t : Int) = z := ⟨_, rfl⟩
  have HT := hide hzt
  have p0 : 0 ≤ zt := by omega
  have p1 : zt ≤ 18446744073709551615 := by have := HLT.out; omega
  rw [hzt]
  clear hzt HRT HH
  by_cases h1 : 1099511627776 ≤ zt
  · have d1 : decide (1099511627776 ≤ zt) = true := by simpa using h1
    have HR : Hid (r = 0) := hide (HZ.out (by have := HT.out; omega))
    clear h1
    go_wp2_with fail
    go_ret2
    exact ⟨by rw [HR.out]; rfl, HB.out⟩
  have d1 : decide (1099511627776 ≤ zt) = false := by simpa using h1
  have p2 : zt < 1099511627776 := by omega
  clear h1
  by_cases h2 : zt % 2 = zn
  · have d2 : (zt % 2 == zn) = true := by simpa using h2
    have HQ2 := hide h2
    clear h2
    go_wp2_with fail
    have HAN : Hid (Calls Try.prog 25 #[.slice none 0 0, .int .u64 zt] w3 (Appends w3 w3.heap.size (.slice none 0 0) [] (enc t))) := hide (by rw [← HT.out]; exact appendNumber_c w3.heap.size _ [] t HLT.out w3 (Ow.nil _ _) (by simp) (Nat.le_refl _))
    refine HAN.out.mono ?_
    rintro e w4 ⟨v4, rfl, ho4, _, hg4, _⟩
    obtain ⟨A4, m4, c4, rfl, _, _, _⟩ := ho4.formN
    have H4 := hide ho4.bs
    replace H1 := hide (H1.out.grown hg4 (by cases (Value.slice A1 m1 c1).ownBlock <;> simp [Value.ownBlock]))
    replace HB := hide (HB.out.trans ((below_of_grown hg4).mono HB.out.size))
    clear ho4 hg4
    go_wp2_with fail
    refine (page_c _ _ (by have := enc_le t 8 (by have := HLT.out; omega); simp; omega) w4 H4.out).mono ?_
    rintro e w5 ⟨v5, rfl, ho5, hb5⟩
    obtain ⟨A5, m5, c5, rfl, _, _, _⟩ := ho5.formN
    have H5 := hide ho5.bs
    replace H1 := hide (H1.out.step hb5)
    replace HB := hide (HB.out.trans (hb5.mono HB.out.size))
    clear ho5 hb5 H4
    go_wp2_with fail
    refine (equal_b _ _ _ _ _ H5.out H1.out).mono ?_
    rintro e w6 ⟨rfl, rfl⟩
    have HP : Hid (pageOf ([] ++ enc t) = hdrPage t) := hide rfl
    rw [HP.out]
    by_cases h3 : hdrPage t = b
    · have HR : Hid (r = t) := hide (HY.out (by have := HT.out; have := HN.out; have := HQ2.out; exact ⟨by omega, by omega, h3⟩))
      have d3 : (hdrPage t == b) = true := by simpa using h3
      rw [d3]
      clear h3 d3
      go_wp2_with fail
      go_ret2
      exact ⟨by rw [HR.out, HT.out]; rfl, HB.out⟩
    · have HR : Hid (r = 0) := hide (HZ.out (fun x => h3 x.2.2))
      have d3 : (hdrPage t == b) = false := by simpa using h3
      rw [d3]
      clear h3 d3
      go_wp2_with fail
      go_ret2
      exact ⟨by rw [HR.out]; rfl, HB.out⟩
  · have d2 : (zt % 2 == zn) = false := by simpa using h2
    have HR : Hid (r = 0) := hide (HZ.out (by have := HT.out; have := HN.out; omega))
    go_wp2_with fail
    go_ret2
    exact ⟨by rw [HR.out]; rfl, HB.out⟩
end Go.Proofs.Ytpadgkkeihhneaa
