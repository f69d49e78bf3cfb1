/- Read. -/
import Derived.Test.YtlpnichgfhgdmaaCont
import Derived.Deep.Upon
import Derived.Lib.EndianMore
import Derived.Deep.WholeRow
import Derived.WalkKit
import Derived.Shelf.Abstract
namespace Go.Proofs.Ytlpnichgfhgdmaa
open Go.ChangeShapes Go.WideShapes Go.ChangeAt Go.RowKit
set_option linter.unusedVariables false
set_option linter.unusedSimpArgs false

attribute [local go_sem] Oper.semAt_some
theorem contents_in (F : Fence) (n : Nat) (hF : F.fn 30) (hro : F.round = none) (d p : Nat) (w : World) :
    CallsIn F n Try.prog 30 #[.pointer (some ⟨d, 0, none⟩), .int .i64 p] w fun e w' => e = .returned (.func (.func 44) #[] #[.pointer (some ⟨w.heap.size, 0, none⟩), .pointer (some ⟨w.heap.size + 1, 0, none⟩)]) ∧
      w' = (w.alloc (.cells #[.pointer (some ⟨d, 0, none⟩)] 23)).alloc (.cells #[.int .i64 p] 3) := by
  have hmf : ∀ (fn : Fn) (first cap : Array Value) (w : World), (Instr.makeFunc fn first cap).run Try.prog w = .ok (.func fn first cap) w := fun _ _ _ _ => rfl
  refine callsIn_of_wp Try.func30 rfl hF ?_ hro
  simp only [Try.ntmps30, List.size_toArray, List.length_cons, List.length_nil, Nat.reduceAdd, Nat.reduceSub, Array.replicate_succ, Array.replicate_zero, List.push_toArray, List.append_toArray, List.nil_append, List.cons_append]
  gi_wp2_with fail
  go_ret
  exact ⟨rfl, rfl⟩

@[irreducible] def zpg : Array Value := Array.replicate 128 (.int .u8 0)
theorem zpg_size : zpg.size = 128 := by unfold zpg; simp
theorem zpg_list : zpg.toList = (List.replicate 128 (0 : UInt8)).map bv := by unfold zpg; simp [bv, u8]
theorem zero_page (w : World) : (zeroValue 64).run Try.prog w = .ok (.agg zpg) w := by unfold zpg; kernel_rfl
theorem hone_page (l : List UInt8) : ∀ v ∈ l.map bv, v.oneCell' = true := fun v hv => by obtain ⟨x, _, rfl⟩ := List.mem_map.1 hv; exact bv_one x
theorem there_page (w : World) {n : Nat} (h : n = 128) : (w.alloc (.cells zpg 64)).there w.heap.size 0 n := by
  subst h
  intro j hj
  have hb := Blk.new w 64 zpg
  rw [Nat.zero_add, hb.cell j, hb.froz j]
  have := zpg_size
  exact ⟨by rw [Array.getElem?_eq_getElem (by omega)]; rfl, rfl⟩
theorem setPage_new (w : World) (cs : List Value) (h : cs.length = 128) (hone : ∀ v ∈ cs, v.oneCell' = true) : (w.alloc (.cells zpg 64)).setCells w.heap.size 0 cs.toArray.toList = w.alloc (.cells cs.toArray 64) := by
  have h1 : (cs.toArray).all (·.oneCell') = true := all_oneCell_toArray hone
  have hs : (Try.prog.info? 64).map (·.size) = some cs.toArray.size := by rw [info_arr]; simp [h]
  have a := run_storeVar_new (P := Try.prog) w 64 zpg cs.toArray hs (by rw [zpg_size]; simp [h]) h1
  have b := run_storeVar_mid (P := Try.prog) (w.alloc (.cells zpg 64)) w.heap.size 0 64 cs.toArray (there_page w (by simpa using h)) hs h1
  rw [a] at b
  injection b with _ b
  exact b.symm
theorem Hole.setCells {B L : Nat} {a w : World} (h : Hole B L a w) (o : Nat) (vs : List Value) (hB : B ≤ a.heap.size) : Hole B L a (w.setCells L o vs) := by
  have h0 := Lib.below_setCells_w (B := 0) (g := L) (Nat.zero_le _) vs o w
  exact h.trans ⟨h0.os, h0.tape, h0.output, h0.size, fun k hk hne => World.heap_setCells_other w L o vs (by have := h.size; omega) hne⟩
theorem keeps_setCells {B L : Nat} (w : World) (o : Nat) (vs : List Value) (hL : L < B) : KeepsFrom B w (w.setCells L o vs) := by
  have h0 := Lib.below_setCells_w (B := 0) (g := L) (Nat.zero_le _) vs o w
  exact ⟨h0.size, fun k ob hk h _ => (World.heap_setCells_other w L o vs (Array.getElem?_eq_some_iff.1 h).1 (by omega)).trans h⟩
/-- What the variable last holds. -/
def lastc (pre : List Pg) : List Value := (pre.getLast?.map (fun x => x.1.map bv)).getD zpg.toList
theorem lastc_snoc (pre : List Pg) (x : Pg) : lastc (pre ++ [x]) = x.1.map bv := by unfold lastc; simp
theorem lastc_len (pre : List Pg) : (lastc pre).length = 128 := by
  unfold lastc
  cases h : pre.getLast? with
  | none => simp [zpg_size]
  | some x => simpa using x.2
theorem lastc_all (D : DS) (p : Nat) (xs : List Pg) (h : xs.map (·.1) = hist D p) : lastc xs = (content D p).map bv := by
  have hne : xs ≠ [] := by intro e; subst e; simp [hist] at h
  have h2 : (xs.map (·.1)).getLast? = (hist D p).getLast? := by rw [h]
  unfold lastc content
  rw [← h2, List.getLast?_map]
  cases hx : xs.getLast? with
  | none => exact absurd (List.getLast?_eq_none_iff.1 hx) hne
  | some x => rfl

/-- What Read's loop keeps. -/
def RdI (W0 : World) (L : Nat) (pre : List Pg) (W : World) : Prop := (W.rangeAt L 0 (lastc pre) ∧ W.there L 0 128) ∧ Hole (L + 3) L W0 W
theorem rdI_own {W0 : World} {L : Nat} (hsz : W0.heap.size = L + 3) : OwnFrom W0.heap.size (RdI W0 L) := by
  rintro pre W W' row ⟨⟨h1, h2⟩, h3⟩ hg hr
  have hb : W'.heap[L]? = W.heap[L]? := hg.block L (by have := h3.size; omega) (fun e => by have := (hr _ e.symm).1; omega)
  refine ⟨⟨fun j u hj => (World.cell?_of_block hb).trans (h1 j u hj), fun j hj => ?_⟩, h3.trans ⟨hg.os, hg.tape, hg.output, hg.size, fun k hk _ => hg.block k (by have := h3.size; omega) (fun e => by have := (hr _ e.symm).1; omega)⟩⟩
  have e1 : W'.cell? ⟨L, 0 + j, none⟩ = W.cell? ⟨L, 0 + j, none⟩ := World.cell?_of_block hb
  have e2 : W'.frozen? ⟨L, 0 + j, none⟩ = W.frozen? ⟨L, 0 + j, none⟩ := by simp [World.frozen?, hb]
  rw [e1, e2]; exact h2 j hj
theorem run_whole (b : Nat) (w : World) : (Instr.sliceAt 64 (.pointer (some ⟨b, 0, none⟩)) none none none).run Try.prog w = .ok (.slice (some ⟨b, 0, none⟩) 128 128) w := by
  kernel_rfl

/-- What Read hands back: a new slice. -/
def ReadR (w : World) (D : DS) (p : Int) (e : Ending) (w' : World) : Prop :=
  ∃ v, e = .returned (.tuple #[v, .int .i64 (dRead D p).2]) ∧ Bs w' v (dRead D p).1 ∧ (∀ j, v.ownBlock = some j → w.heap.size ≤ j) ∧ Below w.heap.size w w'

set_option maxHeartbeats 1000000 in
theorem read_failed (d : Nat) (F : List Nat) (D : DS) (p : Int) (w : World) (h : Disk w d F D) (hf : D.failed = true) :
    Calls Try.prog 15 #[.pointer (some ⟨d, 0, none⟩), .int .i64 p] w (ReadR w D p) := by
  obtain ⟨gv, pv, h⟩ := h
  obtain ⟨c0, c1, c2, c3, f0, f1, f2, f3⟩ := h.cells
  have hr : dRead D p = ([], 10) := by unfold dRead; rw [if_pos hf]
  rw [hf] at c3
  have HR := hide hr
  clear h hf hr
  go_enter Try.func15, Try.ntmps15
  go_wp2_with fail
  go_ret2
  exact ⟨.slice none 0 0, by rw [HR.out]; rfl, by rw [HR.out]; exact Bs.nil _, (fun j hj => by cases hj), Below.refl _ _⟩
set_option maxHeartbeats 1000000 in
theorem read_out (d : Nat) (F : List Nat) (D : DS) (p : Int) (w : World) (h : Disk w d F D) (hf : D.failed = false) (hp : thereB D p = false) :
    Calls Try.prog 15 #[.pointer (some ⟨d, 0, none⟩), .int .i64 p] w (ReadR w D p) := by
  have hth := there_c d F D p w h
  obtain ⟨gv, pv, h⟩ := h
  obtain ⟨c0, c1, c2, c3, f0, f1, f2, f3⟩ := h.cells
  have hr : dRead D p = ([], 2) := by unfold dRead; rw [if_neg (by simp [hf]), if_neg (by simp [hp])]
  rw [hf] at c3
  rw [hp] at hth
  have HR := hide hr
  clear h hf hr hp
  go_enter Try.func15, Try.ntmps15
  go_wp2_with fail
  refine hth.mono ?_
  rintro e w1 ⟨rfl, rfl⟩
  clear hth
  go_wp2_with fail
  go_ret2
  exact ⟨.slice none 0 0, by rw [HR.out]; rfl, by rw [HR.out]; exact Bs.nil _, (fun j hj => by cases hj), Below.refl _ _⟩

set_option maxRecDepth 100000 in
set_option maxHeartbeats 4000000 in
theorem read_ok (d : Nat) (F : List Nat) (D : DS) (p : Nat) (w : World) (h : Disk w d F D) (hf : D.failed = false) (hp : p < D.pages.length) :
    Calls Try.prog 15 #[.pointer (some ⟨d, 0, none⟩), .int .i64 p] w (ReadR w D p) := by
  have hrd : dRead D p = (content D p, 0) := by unfold dRead; rw [if_neg (by simp [hf]), if_pos (by simp [thereB]; omega)]; rfl
  have hlt : ∀ j ∈ F, j < w.heap.size := by obtain ⟨gv, pv, h⟩ := h; exact h.lt
  have H := hide h
  obtain ⟨gv, pv, hdk⟩ := h
  obtain ⟨c0, c1, c2, c3, f0, f1, f2, f3⟩ := hdk.cells
  rw [hf] at c3
  have HRD := hide hrd
  clear hdk hrd hf
  have hz := zero_page
  have htb : thereB D p = true := by simp [thereB]; omega
  refine (callsIn_wide (n := 3)).1 ?_
  refine callsIn_of_wp_marks Try.func15 rfl trivial ?_ rfl
  simp only [Try.ntmps15, List.size_toArray, List.length_cons, List.length_nil, Nat.reduceAdd, Nat.reduceSub, Array.replicate_succ, Array.replicate_zero, List.push_toArray, List.append_toArray, List.nil_append, List.cons_append]
  have hth := there_c d F D p w H.out
  rw [htb] at hth
  gi_wp2_with fail
  refine ⟨trivial, ?_⟩
  refine (callsIn_wide.2 hth).mono ?_
  rintro e w' ⟨rfl, rfl⟩
  clear hth
  gi_wp2_with fail
  refine ⟨trivial, ?_⟩
  refine (contents_in Fence.wide _ trivial rfl d p _).mono ?_
  rintro e w' ⟨rfl, rfl⟩
  gi_wp2_with fail
  obtain ⟨W0, hW0⟩ : ∃ W0, W0 = ((w.alloc (.cells zpg 64)).alloc (Obj.cells #[.pointer (some ⟨d, 0, none⟩)] 23)).alloc (Obj.cells #[.int .i64 (p : Int)] 3) := ⟨_, rfl⟩
  have hsz : W0.heap.size = w.heap.size + 3 := by rw [hW0]; simp
  have kw0 : Below w.heap.size w W0 := by rw [hW0]; exact (((Below.refl _ w).alloc (Nat.le_refl _) _).alloc (by simp) _).alloc (by simp; omega) _
  have hb1 : W0.cell? ⟨w.heap.size + 1, 0, none⟩ = some (.pointer (some ⟨d, 0, none⟩)) := by rw [hW0]; simp [go_sem]
  have hb2 : W0.cell? ⟨w.heap.size + 1 + 1, 0, none⟩ = some (.int .i64 (p : Int)) := by rw [hW0]; simp [go_sem]
  have hblk : Blk W0 w.heap.size 64 zpg := by
    rw [hW0]; exact (Blk.new w 64 zpg).touch (S := []) (((Touch.refl [] _).alloc _).alloc _) (by simp)
  have hL0 : W0.rangeAt w.heap.size 0 (lastc []) := fun j u hj => by
    rw [Nat.zero_add, hblk.cell]
    simpa [lastc] using hj
  have hT0 : W0.there w.heap.size 0 128 := fun j hj => by
    rw [Nat.zero_add, hblk.cell j, hblk.froz j]
    have := zpg_size
    exact ⟨by rw [Array.getElem?_eq_getElem (by omega)]; rfl, rfl⟩
  rw [← hW0]
  have hd0 := H.out.step kw0
  clear hW0 hblk c0 c1 c2 c3 f0 f1 f2 f3
  refine wpIn_rangeFunc_ownH (w0 := W0) rfl (by omega) (gf := 44) (lb := #[.pointer (some ⟨w.heap.size + 1, 0, none⟩), .pointer (some ⟨w.heap.size + 1 + 1, 0, none⟩)]) rfl trivial (enters_of Try.func44 (by kernel_rfl) rfl)
    (encs := fun x : Pg => #[pgv x.1]) (Kp := Hole (w.heap.size + 3) w.heap.size) (S := fun xs => xs.map (·.1) = hist D p) (Sp := fun _ => True) (N := (hist D p).length)
    (fun l J Jx W hW hJ hJx hY h0 => cont1_in Fence.wide _ trivial rfl (by omega) l (w.heap.size + 1) (w.heap.size + 1 + 1) (w.heap.size + 3) w.heap.size d F D p hp J Jx W (hd0.step hW) (fun j hj => by have := hlt j hj; omega) (by omega) (by omega) (by have := hW.size; omega)
      ((hW.cell (p := ⟨w.heap.size + 1, 0, none⟩) (by show w.heap.size + 1 < _; omega)).trans hb1) ((hW.cell (p := ⟨w.heap.size + 1 + 1, 0, none⟩) (by show w.heap.size + 1 + 1 < _; omega)).trans hb2) hJ hY h0)
    Hole.t (fun W l o o' hl h1 h2 h3 => Hole.b (w := W0) (by omega) W l o o' hl h1 h2 h3) (Below.refl _ _) (fun _ => rfl)
    (RdI W0 w.heap.size)
    (fun _ _ _ => False) (rdI_own hsz) (fun _ _ _ _ _ hs _ _ => hs) ⟨⟨hL0, hT0⟩, Hole.refl _ _ _⟩
    (fun x a' W => ∃ Bx, w.heap.size + 3 ≤ Bx ∧ Blk W Bx 64 (x.1.map bv).toArray ∧ a' = {
      tmps := #[.pointer (some ⟨d, 0, none⟩), .int .i64 p, undef, undef, .slice none 0 0, .int .i64 0, .pointer (some ⟨w.heap.size, 0, none⟩), .pointer (some ⟨Bx, 0, none⟩), .bool false,
        .pointer (some ⟨d, 0, none⟩), .pointer (some ⟨d, 0, none⟩), .pointer (some ⟨d, 3, none⟩), .bool false, .bool false, .pointer (some ⟨d, 0, none⟩), .int .i64 p, .bool true, .bool false, .pointer (some ⟨d, 0, none⟩), .int .i64 p,
        .func (.func 44) #[] #[.pointer (some ⟨w.heap.size + 1, 0, none⟩), .pointer (some ⟨w.heap.size + 1 + 1, 0, none⟩)], pgv x.1, undef, undef], defers := [] })
    ?hAx ?assign ?body ?done ?stop
  case hAx =>
    rintro x a' s W W' row ⟨Bx, hx, hblk, ha⟩ hg hr
    refine ⟨Bx, hx, (hg.block Bx hblk.lt (fun e => ?_)).trans hblk, ha⟩
    obtain ⟨o, ho, hc⟩ := (hr _ e.symm).2
    rw [hblk] at ho
    cases ho
    cases hc
  case assign =>
    rintro l pre x W K ⟨⟨h1, h2⟩, h3⟩ hK
    have HST : Hid ((W.alloc (.cells zpg 64)).setCells W.heap.size 0 (x.1.map bv).toArray.toList = W.alloc (.cells (x.1.map bv).toArray 64)) := hide (setPage_new W (x.1.map bv) (by rw [List.length_map, x.2]) (hone_page x.1))
    have HTH : Hid ((W.alloc (.cells zpg 64)).there W.heap.size 0 (x.1.map bv).toArray.size) := hide (there_page W (by simp [x.2]))
    have HK := hide hK
    have HSZ := hide h3.size
    unfold pgv
    gi_wp2_with (refine wpListIn_store_mid rfl 64 (.tmp 7) (.tmp 21) rfl W.heap.size 0 (x.1.map bv).toArray rfl rfl HTH.out (by rw [info_arr]; simp [x.2]) (all_oneCell_toArray (hone_page x.1)) ?_; rw [HST.out])
    have hI : RdI W0 w.heap.size pre W := ⟨⟨h1, h2⟩, h3⟩
    exact HK.out _ _ ((KeepsOthers.alloc _ _).from _) (Hole.below ((Below.refl _ W).alloc (by have := HSZ.out; omega) _)) ((rdI_own hsz).alloc _ hI) ⟨W.heap.size, by have := HSZ.out; omega, Blk.new W _ _, rfl⟩
  case body =>
    rintro l pre x a' W hl ⟨r, hr⟩ ⟨⟨h1, h2⟩, h3⟩ ⟨Bx, hBx, hblk, rfl⟩ hlen
    have HRB : Hid (W.rangeAt Bx 0 (x.1.map bv)) := hide (fun j u hj => by rw [Nat.zero_add, hblk.cell]; simpa using hj)
    have HTH : Hid (W.there w.heap.size 0 (x.1.map bv).toArray.size) := hide (by simpa [x.2] using h2)
    have HI := hide h3
    have H2 := hide h2
    clear hr h1 h2 h3 hblk
    gi_wp2_with (first
      | (refine wpListIn_load_mid rfl 64 (.tmp 7) rfl Bx 0 rfl (x.1.map bv) _ HRB.out Try.underlying64 rfl (by rw [List.length_map, x.2]; exact info_arr) ?_)
      | (refine wpListIn_store_mid rfl 64 (.tmp 6) (.tmp 22) rfl w.heap.size 0 (x.1.map bv).toArray rfl rfl HTH.out (by rw [info_arr]; simp [x.2]) (all_oneCell_toArray (hone_page x.1)) ?_))
    have hW0W := HI.out.size
    refine ⟨keeps_setCells W 0 _ (by omega), (Hole.refl _ _ W).setCells 0 _ (by omega), ⟨?_, World.there_setCells H2.out _ _ _⟩, HI.out.trans ((Hole.refl _ _ W).setCells 0 _ (by omega))⟩
    rw [lastc_snoc]
    exact World.rangeAt_setCells_same W w.heap.size 0 (x.1.map bv).toArray.toList (by simpa using HTH.out)
  case done =>
    rintro D0 xs W hD hS ⟨⟨h1, h2⟩, h3⟩ hK
    have hsl := run_whole w.heap.size
    have H1 := hide h1
    have H3 := hide h3
    have HS := hide hS
    clear h1 h2 h3 hS
    gi_wp2_with fail
    refine ⟨by simp, .inl ⟨_, _, rfl, run_takeDeferred hK, ?_⟩⟩
    refine ⟨_, results_tmp2 rfl _ _ _, .slice (some ⟨w.heap.size, 0, none⟩) 128 128, ?_, ?_, ?_, ?_⟩
    · rw [HRD.out]; rfl
    · rw [HRD.out]
      have hl : (content D p).length = 128 := by
        have := lastc_len xs
        rw [lastc_all D p xs HS.out, List.length_map] at this; exact this
      refine ⟨some ⟨w.heap.size, 0, none⟩, 128, by rw [hl], by rw [hl]; exact Nat.le_refl _, by unfold maxLen; omega, fun _ => ⟨w.heap.size, 0, rfl, ?_, fun j hj => ?_⟩⟩
      · have := H3.out.size
        have := (grownBy_putObj' W D0 (.deferred none)).size
        omega
      · have e : (W.putObj D0 (.deferred none)).cell? ⟨w.heap.size, 0 + j, none⟩ = W.cell? ⟨w.heap.size, 0 + j, none⟩ := World.cell?_of_block ((grownBy_putObj' W D0 _).block w.heap.size (by have := H3.out.size; omega) (by intro e; injection e with e; omega))
        refine e.trans (H1.out j _ ?_)
        rw [lastc_all D p xs HS.out, List.getElem?_map, List.getElem?_eq_getElem hj]; rfl
    · intro j hj
      have e : w.heap.size = j := by injection hj
      omega
    · have k1 : Below w.heap.size w W := kw0.trans ⟨H3.out.os, H3.out.tape, H3.out.output, H3.out.size, fun k hk => H3.out.block k (by omega) (by omega)⟩
      exact k1.grown (grownBy_putObj' W D0 _) k1.size (fun k e => by cases e; omega)
  case stop =>
    rintro D0 c pre W hD _ h hK
    exact h.elim

theorem read_c (d : Nat) (F : List Nat) (D : DS) (p : Int) (w : World) (h : Disk w d F D) :
    Calls Try.prog 15 #[.pointer (some ⟨d, 0, none⟩), .int .i64 p] w (ReadR w D p) := by
  cases hf : D.failed with
  | true => exact read_failed d F D p w h hf
  | false =>
    cases ht : thereB D p with
    | false => exact read_out d F D p w h hf ht
    | true =>
      obtain ⟨h0, h1⟩ := (thereB_iff D p).1 ht
      obtain ⟨q, rfl⟩ : ∃ q : Nat, p = q := ⟨p.toNat, by omega⟩
      exact read_ok d F D q w h hf (by omega)
end Go.Proofs.Ytlpnichgfhgdmaa
