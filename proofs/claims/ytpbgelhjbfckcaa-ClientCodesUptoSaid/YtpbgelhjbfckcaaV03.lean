/- uses: the names of the fields that a kind of messages uses. -/
import Derived.Test.YtpbgelhjbfckcaaV02
namespace Go.Proofs.Ytpbgelhjbfckcaa
set_option linter.unusedVariables false
set_option linter.unusedSimpArgs false
section
open Go.ChangeMaps Go.ChangeShapes Go.WideShapes Go.ChangeAt Go.RowKit
open Go.Maps (Keyed IsMap)
theorem Own.awayV {w0 W W' : World} {S T : List Nat} {L : List (Nat × TypeId × List Value)} (h : Own w0 S L W) (ht : Touch T W W') (hT : ∀ s ∈ T, s ∈ S ∨ (w0.heap.size ≤ s ∧ s ∉ L.map (·.1))) : Own w0 S L W' :=
 ⟨fun e he => ⟨(h.has e he).1.touch ht (fun hm => by
  rcases hT _ hm with h1 | ⟨_, h1⟩
  ·have := h.old _ h1; have := (h.has e he).2; omega
  ·exact h1 (List.mem_map.2 ⟨e, he, rfl⟩)), (h.has e he).2⟩, h.apart, h.touch.next ht (fun t hm => (hT t hm).imp id (·.1)), h.old⟩
section
variable {P : Program} {w : World} {ops : Array Oper} {rest : List Oper} {d : Option Tmp} {ty : TypeId} {p : String} {af : Array Edge} {g : Option (Nat × Bool)} {a : Act} {Q : Exit → Act → World → Prop}
theorem at_insert (t : TypeId) (m k v : Operand) (h : wpList P ops Q ({ dst := d, op := .insert t m k v, type := ty, pos := p, after := af, guard := g } :: rest) a w) : wpList P ops Q ({ dst := d, op := .insert t m k v, type := ty, pos := p, after := af, guard := g } :: rest) a w := h
theorem at_lookup_ (t : TypeId) (m k : Operand) (is : Bool) (h : wpList P ops Q ({ dst := d, op := .lookup t m k is, type := ty, pos := p, after := af, guard := g } :: rest) a w) : wpList P ops Q ({ dst := d, op := .lookup t m k is, type := ty, pos := p, after := af, guard := g } :: rest) a w := h
end
section
variable {w0 w W : World} {ops : Array Oper} {rest : List Oper} {o : Oper} {a : Act} {Q : Exit → Act → World → Prop}
/-- While the table of uses is filled. -/
structure Us (w0 : World) (mb : Nat) (L : List (Int × Nat × List ByteArray)) (W : World) : Prop where
 map : W.ownsMap Try.prog 3 RV mb L.length (mkM (L.map fun e => (.int .i64 e.1, useVal e.2.1 e.2.2)))
 own : Own w0 [] (L.map fun e => (e.2.1, 9, strCells e.2.2)) W
 new : w0.heap.size ≤ mb ∧ mb < W.heap.size
 ne : ∀ e ∈ L, e.2.1 ≠ mb
theorem wpList_makeMap_use (hgd : o.guard = none) (t : TypeId) (hop : o.op = .makeMap t none) (hK : ∀ w' mb, Us w mb [] w' → Below w.heap.size w w' → wpList Try.prog ops Q rest (a.put o.dst (.map (some mb))) w') : wpList Try.prog ops Q (o :: rest) a w := by
 refine wpList_plain hgd fun K' hK' => ?_
 unfold Oper.wp execOp
 simp only [hop, Option.map_none, Sem.run_bind, run_makeMap, Result.andThen_ok]
 have hb : Below w.heap.size w (w.alloc (.map #[] 0)) := (Below.refl _ _).alloc (Nat.le_refl _) _
 exact hK' _ _ (hK _ _ ⟨World.ownsMap_made w Try.prog 3 RV, (Own.nil w [] (by simp)).step hb, ⟨Nat.le_refl _, by simp⟩, by simp⟩ hb)
theorem wpList_insert_use {mb : Nat} {L : List (Int × Nat × List ByteArray)} (h : Us w0 mb L W) (hgd : o.guard = none) (m v : Operand) (x : Int) (hop : o.op = .insert 120 m (.const (.int .i64 x)) v) (hm : a.eval m = .map (some mb)) (hwf : (Lit.int .i64 x).wf = true)
 (l : List ByteArray) (hv : a.eval v = .slice (some ⟨W.heap.size, 0, none⟩) l.length l.length) (hn : L.length < 100) {c : Array Value} (hc : c = (strCells l).toArray)
 (hK : ∀ W' g, Us w0 mb (L ++ [(x, g, l)]) W' → wpList Try.prog ops Q rest (a.put o.dst undef) W') : wpList Try.prog ops Q (o :: rest) a (W.alloc (.cells c 9)) := by
 subst hc
 have hsz := h.own.size
 refine wpList_insert_held hgd m (.const (.int .i64 x)) v 120 hop 3 93 (Go.Maps.int_keyed Try.underlying3) Try.underlying120 mb L.length _ hm (h.map.alloc _) (by unfold maxLen; omega) (.int .i64 x) _ (.int .i64 x) rfl hv (Go.Maps.keyOf_int_mk Try.underlying3 hwf) fun w' hw ht => ?_
 have hpush := h.own.push (t := 9) (cs := strCells l) (Blk.new W 9 (strCells l).toArray) ((Below.refl _ _).alloc (Nat.le_refl _) _)
 refine hK w' W.heap.size ⟨?_, ?_, ⟨h.new.1, Nat.lt_of_lt_of_le h.new.2 (Nat.le_trans (by simp) ht.size)⟩, fun e he => ?_⟩
 ·rw [List.map_append, List.length_append]
  show w'.ownsMap Try.prog 3 RV mb (L.length + 1) (mkM (_ ++ [(.int .i64 x, useVal W.heap.size l)]))
  rw [mkM_snoc]
  exact hw
 ·rw [List.map_append]
  refine hpush.awayV ht fun s hs => .inr ?_
  obtain rfl : s = mb := by simpa using hs
  refine ⟨h.new.1, fun hm => ?_⟩
  rw [List.map_append] at hm
  rcases List.mem_append.1 hm with hm | hm
  ·rw [List.map_map] at hm
   obtain ⟨e, he, h2⟩ := List.mem_map.1 hm
   exact h.ne e he h2
  ·have e : s = W.heap.size := by simpa using hm
   have := h.new.2
   omega
 ·rcases List.mem_append.1 he with he | he
  ·exact h.ne e he
  ·obtain rfl : e = (x, W.heap.size, l) := by simpa using he
   have := h.new.2
   show W.heap.size ≠ mb
   omega
end
/-- What uses hands back: names in memory, or nothing. -/
def UsesR (w : World) (k : Int) (e : Ending) (w' : World) : Prop :=
 Below w.heap.size w w' ∧ ((k < 0 ∨ 11 < k) ∧ e = .returned (.tuple #[.slice none 0 0, .bool false]) ∨
  ∃ l g, useList[k.toNat]? = some l ∧ 0 ≤ k ∧ k ≤ 11 ∧ e = .returned (.tuple #[useVal g l, .bool true]) ∧ Blk w' g 9 (strCells l).toArray ∧ w.heap.size ≤ g)
theorem zero_sl (w : World) : (zeroValue 93).run Try.prog w = .ok (.slice none 0 0) w := by kernel_rfl
set_option maxRecDepth 100000 in
set_option maxHeartbeats 8000000 in
theorem uses_c (k : Int) (hk : (Lit.int .i64 k).wf = true) (w : World) : Calls Try.prog 40 #[.int .i64 k] w (UsesR w k) := by
 have HK := hide hk;clear hk
 go_enter Try.func40, Try.ntmps40
 go_wp2_with (first
  | (refine wpList_makeMap_use rfl 120 rfl ?_; intro W' mb hu hb; have HU := hide hu; have HB := hide hb; clear hu hb)
  | ((with_reducible refine at_insert 120 (.tmp 7) (.const (.int .i64 0)) (.tmp 8) ?_); refine wpList_insert_use HU.out rfl (.tmp 7) (.tmp 8) 0 rfl rfl (by decide) [nMessage] rfl (by simp) rfl ?_; intro W' g0 hu; replace HU := hide hu; clear hu)
  | ((with_reducible refine at_insert 120 (.tmp 7) (.const (.int .i64 1)) (.tmp 9) ?_); refine wpList_insert_use HU.out rfl (.tmp 7) (.tmp 9) 1 rfl rfl (by decide) [nGroup, nClient, nNumber, nBody] rfl (by simp) rfl ?_; intro W' g1 hu; replace HU := hide hu; clear hu)
  | ((with_reducible refine at_insert 120 (.tmp 7) (.const (.int .i64 2)) (.tmp 10) ?_); refine wpList_insert_use HU.out rfl (.tmp 7) (.tmp 10) 2 rfl rfl (by decide) [nGroup, nClient, nNumber, nCode, nBody, nLeader] rfl (by simp) rfl ?_; intro W' g2 hu; replace HU := hide hu; clear hu)
  | ((with_reducible refine at_insert 120 (.tmp 7) (.const (.int .i64 3)) (.tmp 11) ?_); refine wpList_insert_use HU.out rfl (.tmp 7) (.tmp 11) 3 rfl rfl (by decide) [nGroup, nGeneration, nStep, nChange] rfl (by simp) rfl ?_; intro W' g3 hu; replace HU := hide hu; clear hu)
  | ((with_reducible refine at_insert 120 (.tmp 7) (.const (.int .i64 4)) (.tmp 12) ?_); refine wpList_insert_use HU.out rfl (.tmp 7) (.tmp 12) 4 rfl rfl (by decide) [nGroup, nGeneration, nStep, nCode, nLeader] rfl (by simp) rfl ?_; intro W' g4 hu; replace HU := hide hu; clear hu)
  | ((with_reducible refine at_insert 120 (.tmp 7) (.const (.int .i64 5)) (.tmp 13) ?_); refine wpList_insert_use HU.out rfl (.tmp 7) (.tmp 13) 5 rfl rfl (by decide) [nGeneration, nStep, nUnit] rfl (by simp) rfl ?_; intro W' g5 hu; replace HU := hide hu; clear hu)
  | ((with_reducible refine at_insert 120 (.tmp 7) (.const (.int .i64 6)) (.tmp 14) ?_); refine wpList_insert_use HU.out rfl (.tmp 7) (.tmp 14) 6 rfl rfl (by decide) [nGeneration, nStep, nCode, nValue] rfl (by simp) rfl ?_; intro W' g6 hu; replace HU := hide hu; clear hu)
  | ((with_reducible refine at_insert 120 (.tmp 7) (.const (.int .i64 7)) (.tmp 15) ?_); refine wpList_insert_use HU.out rfl (.tmp 7) (.tmp 15) 7 rfl rfl (by decide) [nGroup] rfl (by simp) rfl ?_; intro W' g7 hu; replace HU := hide hu; clear hu)
  | ((with_reducible refine at_insert 120 (.tmp 7) (.const (.int .i64 8)) (.tmp 16) ?_); refine wpList_insert_use HU.out rfl (.tmp 7) (.tmp 16) 8 rfl rfl (by decide) [nGroup, nCode, nStatus] rfl (by simp) rfl ?_; intro W' g8 hu; replace HU := hide hu; clear hu)
  | ((with_reducible refine at_insert 120 (.tmp 7) (.const (.int .i64 9)) (.tmp 17) ?_); refine wpList_insert_use HU.out rfl (.tmp 7) (.tmp 17) 9 rfl rfl (by decide) [nGroup, nClient, nNumber, nValue] rfl (by simp) rfl ?_; intro W' g9 hu; replace HU := hide hu; clear hu)
  | ((with_reducible refine at_insert 120 (.tmp 7) (.const (.int .i64 10)) (.tmp 18) ?_); refine wpList_insert_use HU.out rfl (.tmp 7) (.tmp 18) 10 rfl rfl (by decide) [nGroup, nClient, nNumber, nCode, nValue] rfl (by simp) rfl ?_; intro W' g10 hu; replace HU := hide hu; clear hu)
  | ((with_reducible refine at_insert 120 (.tmp 7) (.const (.int .i64 11)) (.tmp 19) ?_); refine wpList_insert_use HU.out rfl (.tmp 7) (.tmp 19) 11 rfl rfl (by decide) [nMachines] rfl (by simp) rfl ?_; intro W' g11 hu; replace HU := hide hu; clear hu)
  | ((with_reducible refine at_lookup_ 120 (.tmp 20) (.tmp 21) true ?_); refine Hid.out ?_))
 refine hide ?_
 obtain ⟨L, hL⟩ : ∃ L : List (Int × Nat × List ByteArray), [(0, g0, [nMessage]), (1, g1, [nGroup, nClient, nNumber, nBody]), (2, g2, [nGroup, nClient, nNumber, nCode, nBody, nLeader]), (3, g3, [nGroup, nGeneration, nStep, nChange]), (4, g4, [nGroup, nGeneration, nStep, nCode, nLeader]), (5, g5, [nGeneration, nStep, nUnit]), (6, g6, [nGeneration, nStep, nCode, nValue]), (7, g7, [nGroup]), (8, g8, [nGroup, nCode, nStatus]), (9, g9, [nGroup, nClient, nNumber, nValue]), (10, g10, [nGroup, nClient, nNumber, nCode, nValue]), (11, g11, [nMachines])] = L := ⟨_, rfl⟩
 have HU2 : Hid (Us w mb L W') := hide (by rw [← hL]; exact HU.out)
 have HKS : Hid (L.map (·.1) = [0, 1, 2, 3, 4, 5, 6, 7, 8, 9, 10, 11]) := hide (by rw [← hL]; rfl)
 have HJ : Hid (∀ j : Nat, j < 12 → ∃ l g, useList[j]? = some l ∧ ((j : Int), g, l) ∈ L) := hide (fun j hj => by
  have : j = 0 ∨ j = 1 ∨ j = 2 ∨ j = 3 ∨ j = 4 ∨ j = 5 ∨ j = 6 ∨ j = 7 ∨ j = 8 ∨ j = 9 ∨ j = 10 ∨ j = 11 := by omega
  rw [← hL]
  rcases this with rfl | rfl | rfl | rfl | rfl | rfl | rfl | rfl | rfl | rfl | rfl | rfl
  ·exact ⟨[nMessage], g0, rfl, by simp⟩
  ·exact ⟨[nGroup, nClient, nNumber, nBody], g1, rfl, by simp⟩
  ·exact ⟨[nGroup, nClient, nNumber, nCode, nBody, nLeader], g2, rfl, by simp⟩
  ·exact ⟨[nGroup, nGeneration, nStep, nChange], g3, rfl, by simp⟩
  ·exact ⟨[nGroup, nGeneration, nStep, nCode, nLeader], g4, rfl, by simp⟩
  ·exact ⟨[nGeneration, nStep, nUnit], g5, rfl, by simp⟩
  ·exact ⟨[nGeneration, nStep, nCode, nValue], g6, rfl, by simp⟩
  ·exact ⟨[nGroup], g7, rfl, by simp⟩
  ·exact ⟨[nGroup, nCode, nStatus], g8, rfl, by simp⟩
  ·exact ⟨[nGroup, nClient, nNumber, nValue], g9, rfl, by simp⟩
  ·exact ⟨[nGroup, nClient, nNumber, nCode, nValue], g10, rfl, by simp⟩
  ·exact ⟨[nMachines], g11, rfl, by simp⟩)
 clear HU hL;clear g0 g1 g2 g3 g4 g5 g6 g7 g8 g9 g10 g11
 have HB2 : Hid (Below w.heap.size w W') := hide HU2.out.own.below
 by_cases hr : 0 ≤ k ∧ k ≤ 11
 ·obtain ⟨j, rfl⟩ := Int.eq_ofNat_of_zero_le hr.1
  obtain ⟨l, g, hul, hm⟩ := HJ.out j (by omega)
  have hat := mkM_at (L.map fun e => (.int .i64 e.1, useVal e.2.1 e.2.2)) (.int .i64 j) (useVal g l) trivial (List.mem_map.2 ⟨_, hm, rfl⟩) (by
   rw [List.pairwise_map]
   have hp : (L.map (·.1)).Pairwise (· ≠ ·) := by rw [HKS.out]; decide
   rw [List.pairwise_map] at hp
   exact hp.imp (fun h e => h (by injection e)))
  have HBL : Hid (Blk W' g 9 (strCells l).toArray ∧ w.heap.size ≤ g) := hide (HU2.out.own.has (g, 9, strCells l) (List.mem_map.2 ⟨_, hm, rfl⟩))
  have HUL := hide hul;have HR := hide hr;have HAT := hide hat;clear hul hm hr hat HJ HKS
  refine wpList_lookup_ok_held rfl (.tmp 20) (.tmp 21) 120 rfl 3 93 (Go.Maps.int_keyed Try.underlying3) Try.underlying120 (zero_sl _) mb _ _ rfl HU2.out.map (.int .i64 j) (useVal g l) (.int .i64 j) true rfl (Go.Maps.keyOf_int_mk Try.underlying3 HK.out) (HAT.out.2 _) HAT.out.1 ?_
  unfold useVal
  obtain ⟨n, hn⟩ : ∃ n, l.length = n := ⟨_, rfl⟩
  rw [hn]
  have HN := hide hn;clear hn
  go_wp2_with fail
  refine bodyPost_ret (v := .tuple #[.slice (some ⟨g, 0, none⟩) n n, .bool true]) (by simp [results, Try.results40, go_sem]) rfl ?_
  exact ⟨HB2.out, .inr ⟨l, g, HUL.out, HR.out.1, HR.out.2, by unfold useVal; rw [HN.out], HBL.out.1, HBL.out.2⟩⟩
 ·have hat := mkM_not (L.map fun e => (.int .i64 e.1, useVal e.2.1 e.2.2)) (.int .i64 k) (fun e he => by
   obtain ⟨x, hx, rfl⟩ := List.mem_map.1 he
   have h1 : x.1 ∈ L.map (·.1) := List.mem_map.2 ⟨x, hx, rfl⟩
   rw [HKS.out] at h1
   intro e2
   injection e2 with _ e2
   rw [e2] at h1
   simp at h1
   omega)
  have HAT := hide hat
  have HR : Hid (k < 0 ∨ 11 < k) := hide (by omega)
  clear hat hr HJ HKS
  refine wpList_lookup_ok_held rfl (.tmp 20) (.tmp 21) 120 rfl 3 93 (Go.Maps.int_keyed Try.underlying3) Try.underlying120 (zero_sl _) mb _ _ rfl HU2.out.map (.int .i64 k) (.slice none 0 0) (.int .i64 k) false rfl (Go.Maps.keyOf_int_mk Try.underlying3 HK.out) (HAT.out.2 _) HAT.out.1 ?_
  go_wp2_with fail
  refine bodyPost_ret (v := .tuple #[.slice none 0 0, .bool false]) (by simp [results, Try.results40, go_sem]) rfl ?_
  exact ⟨HB2.out, .inl ⟨HR.out, rfl⟩⟩
end
section
open Go.ChangeMaps Go.ChangeShapes Go.WideShapes Go.ChangeAt Go.RowKit
section
variable {P : Program} {md : Region.Mode} {ops : Array Oper} {Q : Exit → Act → World → Prop} {S : World → Prop}
def backEdges (ops : Array Oper) : Bool := ops.toList.zipIdx.all fun x => x.1.after.toList.all fun e => decide (e.on < x.2)
theorem all_listed (hb : backEdges ops = true) {listed : Array Bool} (hr : Region.ready md ops listed = []) : ∀ i, i < ops.size → listed.getD i true = true := by
 intro i
 induction i using Nat.strongRecOn with
 | ind i ih =>
  intro hi
  cases hl : listed.getD i true with
  | true => rfl
  | false =>
   have hn : i ∉ Region.ready md ops listed := by rw [hr]; simp
   exfalso
   apply hn
   refine mem_ready.2 ⟨hl, ops[i], by simp [hi], fun e he _ => ?_⟩
   have hlt : e.on < i := by
    unfold backEdges at hb
    rw [List.all_eq_true] at hb
    have h1 := hb (ops[i], i) (by
     rw [List.mem_zipIdx_iff_getElem?]
     simp [hi])
    rw [List.all_eq_true] at h1
    simpa using h1 e (by simpa using he)
   have h2 := ih e.on hlt (by omega)
   have hs : i < listed.size := by
    rcases Nat.lt_or_ge i listed.size with h | h
    ·exact h
    ·simp [Array.getD, Nat.not_lt.2 h] at hl
   have hs2 : e.on < listed.size := by omega
   simp only [Array.getD, hs2, dif_pos] at h2 ⊢
   exact h2
theorem count_set_true {l : List Bool} {i : Nat} (h : l[i]? = some false) : (l.set i true).count false + 1 = l.count false := by
 induction l generalizing i with
 | nil => simp at h
 | cons x l ih =>
  cases i with
  | zero =>
   simp only [List.getElem?_cons_zero, Option.some.injEq] at h
   subst h
   simp
  | succ i =>
   simp only [List.getElem?_cons_succ] at h
   have := ih h
   cases x <;> simp [List.set_cons_succ, List.count_cons] <;> omega
/-- Whatever order is picked: an invariant that each operation that may come up keeps. -/
theorem wpAnyH_inv (hb : backEdges ops = true) (I : Array Bool → Act → World → Prop) (hS : ∀ listed a w, I listed a w → S w)
 (hstep : ∀ listed a w i, listed.size = ops.size → I listed a w → i ∈ Region.ready md ops listed → wpOp P ops Q i (fun a' w' => I (listed.setIfInBounds i true) a' w') a w)
 (hdone : ∀ listed a w, I listed a w → (∀ i, i < ops.size → listed.getD i true = true) → Q .normal a w) :
 ∀ fuel listed a w, listed.size = ops.size → listed.toList.count false ≤ fuel → I listed a w → wpAnyH P md ops Q S fuel listed a w := by
 intro fuel
 induction fuel with
 | zero =>
  intro listed a w hs hc hI
  have hr : Region.ready md ops listed = [] := by
   rw [List.eq_nil_iff_forall_not_mem]
   intro j hj
   have h1 := (mem_ready.1 hj).1
   have hlt : j < listed.size := by
    rcases Nat.lt_or_ge j listed.size with h | h
    ·exact h
    ·simp [Array.getD, Nat.not_lt.2 h] at h1
   simp only [Array.getD, hlt, dif_pos] at h1
   have hm : false ∈ listed.toList := by rw [← h1]; simp
   have := List.count_pos_iff.2 hm
   omega
  exact ⟨hr, hdone listed a w hI (all_listed hb hr)⟩
 | succ fuel ih =>
  intro listed a w hs hc hI
  refine ⟨fun hr => hdone listed a w hI (all_listed hb hr), fun i hi => ?_⟩
  refine wpOp_mono (fun a' w' hI' => ⟨hS _ _ _ hI', ih _ _ _ (by simp [hs]) ?_ hI'⟩) (hstep listed a w i hs hI hi)
  have h1 := (mem_ready.1 hi).1
  have hlt : i < listed.size := by
   rcases Nat.lt_or_ge i listed.size with h | h
   ·exact h
   ·simp [Array.getD, Nat.not_lt.2 h] at h1
  simp only [Array.getD, hlt, dif_pos] at h1
  have h2 : listed.toList[i]? = some false := by rw [Array.getElem?_toList, Array.getElem?_eq_getElem hlt]; exact congrArg some h1
  have h3 := count_set_true h2
  rw [Array.toList_setIfInBounds]
  omega
/-- What a ready operation waits for has come up. -/
theorem ready_after {i k : Nat} {o : Oper} {listed : Array Bool} (hi : i ∈ Region.ready md ops listed) (ho : ops[i]? = some o) (h : (o.after.toList.any fun e => e.on == k && Region.binds md e) = true) : listed.getD k false = true := by
 obtain ⟨_, o', ho', hall⟩ := mem_ready.1 hi
 rw [ho] at ho'
 injection ho' with ho'
 subst ho'
 obtain ⟨e, he, h1⟩ := List.any_eq_true.1 h
 simp only [Bool.and_eq_true, beq_iff_eq] at h1
 rw [← h1.1]
 exact hall e (by simpa using he) h1.2
end
end
section
open Go.ChangeMaps Go.ChangeShapes Go.WideShapes Go.ChangeAt Go.RowKit
theorem Own.join {w0 w w' : World} {L M : List (Nat × TypeId × List Value)} (h : Own w0 [] L w) (k : Own w [] M w') : Own w0 [] (L ++ M) w' := by
 have hb := k.below
 refine ⟨fun e he => ?_, ?_, (h.step hb).touch, by simp⟩
 ·rcases List.mem_append.1 he with he | he
  ·exact (h.step hb).has e he
  ·exact ⟨(k.has e he).1, Nat.le_trans h.size (k.has e he).2⟩
 ·rw [List.map_append, List.nodup_append]
  refine ⟨h.apart, k.apart, fun a ha c hc e => ?_⟩
  obtain ⟨x, hx, rfl⟩ := List.mem_map.1 ha
  obtain ⟨y, hy, rfl⟩ := List.mem_map.1 hc
  have h1 := (h.has x hx).1.lt
  have h2 := (k.has y hy).2
  omega
section
variable {P : Program} {w : World} {ops : Array Oper} {o : Oper} {a : Act} {K : Act → World → Prop} {Q : Exit → Act → World → Prop} {E : Prop}
theorem enters {fn : Func} {f : FuncId} (hf : P.funcs[f]? = some fn) (hn : (fn.name == "runtime.NumGoroutine") = false) (hb : fn.body.isNone = false) (args : Array Value) (w : World) : (callFunc f args).run P w = .ok (.enter f args) w := by
 unfold callFunc
 simp only [Sem.run_bind, program, Sem.run, Result.andThen, hf, hn, hb]
 simp
theorem step_callV (hgd : o.guard = none) (f : FuncId) (he : ∀ args w, (callFunc f args).run P w = .ok (.enter f args) w) (args : Array Operand) (ts : Array TypeId) (ho : o.op = .call { callee := .value (.func f), args := args, argTypes := ts }) (vals : Array Value) (hv : args.map a.eval = vals)
 (hc : Calls P f vals w fun e w' => ∃ v, e = .returned v ∧ K (a.put o.dst v) w') : if Region.wanted o (yielded ops a.tmps) = true then Oper.wp P o a w K Q else E := by
 have hw : Region.wanted o (yielded ops a.tmps) = true := by simp [Region.wanted, hgd]
 rw [if_pos hw]
 subst hv
 unfold Oper.wp execOp
 simp only [ho, resolve, invoke, Deferred.ofValue, he, Sem.run_bind, Sem.run_pure, Result.andThen_ok, Act.eval, Array.append_empty, Array.empty_append]
 refine hc.mono fun e w' h => ?_
 obtain ⟨v, rfl, h⟩ := h
 exact h
theorem step_plainV (hgd : o.guard = none) (x : Operand) (ho : o.op = .move x ∨ o.op = .assign x) (v : Value) (hv : a.eval x = v) (h : K (a.put o.dst v) w) : if Region.wanted o (yielded ops a.tmps) = true then Oper.wp P o a w K Q else E := by
 have hw : Region.wanted o (yielded ops a.tmps) = true := by simp [Region.wanted, hgd]
 rw [if_pos hw]
 subst hv
 unfold Oper.wp execOp
 rcases ho with ho | ho <;> simp only [ho, Sem.run_bind, Sem.run_pure, Result.andThen_ok] <;> exact h
end
end
end Go.Proofs.Ytpbgelhjbfckcaa
