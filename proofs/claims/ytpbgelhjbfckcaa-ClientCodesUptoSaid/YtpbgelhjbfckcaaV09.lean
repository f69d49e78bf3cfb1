/- The fields of a message: what those write that consist of parts. -/
import Derived.Test.YtpbgelhjbfckcaaV08
import Derived.Test.YtpbgelhjbfckcaaV01
namespace Go.Proofs.Ytpbgelhjbfckcaa
set_option maxRecDepth 100000
set_option linter.unusedVariables false
set_option linter.unusedSimpArgs false
section
open Go.ChangeShapes Go.WideShapes Go.ChangeAt Go.RowKit
def encNs (cs : List Value) (ns : List Nat) : List UInt8 := ns.flatMap fun o => encI (numAt cs o)
def encLs (lss : List (List Int)) : List UInt8 := lss.flatMap encL
theorem encL_len {l : List Int} (h : ∀ x ∈ l, I64 x) (hl : l.length < 2 ^ 64) : (encL l).length ≤ 9 * (l.length + 1) := by
 unfold encL
 rw [List.length_append]
 have := enc_len l.length hl
 have := flat_len h
 omega
theorem encNs_len {cs : List Value} {ns : List Nat} (h : ∀ o ∈ ns, I64 (numAt cs o)) : (encNs cs ns).length ≤ 9 * ns.length := by
 unfold encNs
 induction ns with
 | nil => simp
 | cons x l ih =>
  rw [List.flatMap_cons, List.length_append, List.length_cons]
  have h1 := encI_len (h x (by simp))
  have h2 := ih (fun y hy => h y (by simp [hy]))
  omega
def totL (lss : List (List Int)) : Nat := (lss.map (fun l => l.length + 1)).sum
theorem encLs_len {lss : List (List Int)} (h : ∀ l ∈ lss, (∀ x ∈ l, I64 x) ∧ l.length < 2 ^ 64) : (encLs lss).length ≤ 9 * totL lss := by
 unfold encLs totL
 induction lss with
 | nil => simp
 | cons l r ih =>
  rw [List.flatMap_cons, List.length_append, List.map_cons, List.sum_cons]
  have h1 := encL_len (h l (by simp)).1 (h l (by simp)).2
  have h2 := ih (fun y hy => h y (by simp [hy]))
  omega
theorem totL_take (lss : List (List Int)) (k : Nat) (h : k < lss.length) : totL (lss.take k) + (lss[k].length + 1) ≤ totL lss := by
 induction lss generalizing k with
 | nil => simp at h
 | cons l r ih =>
  cases k with
  | zero => simp [totL]
  | succ k =>
   have := ih k (by simpa using h)
   simp only [totL, List.take_succ_cons, List.map_cons, List.sum_cons, List.getElem_cons_succ] at this ⊢
   omega
/-- The lists at some places of a message. -/
def ListsAt (w : World) (base : Nat) (cs : List Value) (ls : List Nat) (lss : List (List Int)) : Prop := lss.length = ls.length ∧ ∀ i (h : i < ls.length) (h2 : i < lss.length), LiB w base (slAt cs ls[i]) lss[i]
section
variable {w : World} {base : Nat} {L : LB} {b bm : Nat} {cs : List Value}
set_option maxHeartbeats 4000000 in
theorem pwrite_c (hF : FB w base L b bm cs) {ns ls : List Nat} {lss : List (List Int)} {bn bl : Nat} (hp : PartB L b ns ls bn bl) (hT : MsgT cs) (hn : ∀ o ∈ ns, o ∈ iOffs ∧ I64 (numAt cs o)) (hl : ∀ o ∈ ls, o ∈ sOffs) (hn9 : ns.length ≤ 100) (hl9 : ls.length ≤ 100) (hls : ListsAt w base cs ls lss) (hsz : totL lss ≤ 1099511627776) :
 Writes w 82 [at0 bn, at0 bl] base (encNs cs ns ++ encLs lss) := by
 intro v l0 ho hb hl0
 obtain ⟨vn, vl, q1, q2, q3, q4⟩ := hp
 obtain ⟨A, n, c, rfl, hnn, hnc, hcm⟩ := (q3.ptrs hF.all hn9).form
 obtain ⟨B, m, d, rfl, hmm, hmd, hdm⟩ := (q4.ptrs hF.all hl9).form
 have HO := hide ho;have HB := hide hb;have HL0 := hide hl0;have HF := hide hF;have HQ3 := hide q3;have HQ4 := hide q4;have HN := hide hn;have HLL := hide hl;have HN9 := hide hn9;have HL9 := hide hl9;have HLS := hide hls;have HSZ := hide hsz;have HT := hide hT;have k1 := hF.box q1
 have HBX := hide (show ∀ W, Below base w W → W.cell? ⟨bl, 0, none⟩ = some (.slice B m d) from fun W k => (hF.below k).box q2)
 have HLI : Hid (∀ l ∈ lss, (∀ x ∈ l, I64 x) ∧ l.length < 2 ^ 64) := hide (fun l hm => by
  obtain ⟨i, hi, rfl⟩ := List.mem_iff_getElem.1 hm
  obtain ⟨A, c, _, h1, h2, h3, _⟩ := hls.2 i (by rw [← hls.1]; exact hi) hi
  exact ⟨h3, by unfold maxLen at h2; omega⟩)
 clear ho hb hl0 hF q1 q2 q3 q4 hn hl hn9 hl9 hls hsz hT
 show Calls Try.prog _ #[v, at0 bn, at0 bl] w _
 go_enter Try.func82, Try.ntmps82
 go_wp2_with fail
 go_loopw [0, 11] (fun v0 v11 wr => ∃ k : Nat, v11 = .int .i64 k ∧ k ≤ n ∧ Ow wr base v0 (l0 ++ encNs cs (ns.take k)) ∧ Below base w wr ∧ base ≤ wr.heap.size) (fun _ v11 _ => n - (intOf v11).toNat)
 case atStart => exact ⟨0, rfl, Nat.zero_le _, by simpa [encNs] using HO.out, Below.refl _ _, HB.out⟩
 case round =>
  obtain ⟨k, rfl, hk, ho, hbl, hsz⟩ := hrel
  clear HO k1
  by_cases hlt : k < n
  ·have hkl : k < ns.length := by rw [← hnn.out]; exact hlt
   obtain ⟨g, o, rfl, hcp⟩ := (HQ3.out.ptrs (HF.out.below hbl).all HN9.out).at_ k hkl
   obtain ⟨hoi, hix⟩ := HN.out ns[k] (List.getElem_mem hkl)
   obtain ⟨x, hx⟩ := HT.out.ints ns[k] hoi
   have hx2 := ((HF.out.below hbl).cell ns[k]).trans hx
   rw [numAt_eq hx] at hix
   have HFL := hide (flat_snoc (fun o => encI (numAt cs o)) ns k hkl)
   have HEX : Hid (encI (numAt cs ns[k]) = encI x) := hide (by rw [numAt_eq hx])
   have HLN : Hid ((encNs cs (ns.take k)).length ≤ 900) := hide (by
    have h1 := encNs_len (cs := cs) (ns := ns.take k) (fun o ho => (HN.out o (List.mem_of_mem_take ho)).2)
    rw [List.length_take] at h1
    have := HN9.out
    omega)
   have HX := hide hix;have HO := hide ho;have HBL := hide hbl;have HS := hide hsz;have HKT := hide hlt
   have hki : (k : Int) < (n : Int) := by omega
   rw [HEX.out] at HFL
   generalize ns[k] = ok at *
   clear ho hbl hsz hx hix hoi hkl hlt hk HEX
   go_wp2_with fail
   refine (appendInt_c base u0 _ x HX.out.1 HX.out.2 wr HO.out (by rw [List.length_append]; have := HL0.out; have := HLN.out; omega) HS.out).mono ?_
   rintro e w2 ha
   obtain ⟨v2, rfl, ho2, hb2, hs2⟩ := ha.app HO.out HS.out
   have HO2 := hide ho2
   have HB2 := hide (below_trans HBL.out hb2)
   have HS2 : Hid (base ≤ w2.heap.size) := hide (Nat.le_trans HS.out hs2)
   clear ha ho2 hb2 hs2 hcp hx2 HO HBL
   go_wp2_with fail
   go_roundw
   case rel => exact ⟨k + 1, by go_num, HKT.out, by have := HO2.out; unfold encNs at this ⊢; rw [HFL.out]; simpa [List.append_assoc, encI] using this, HB2.out, HS2.out⟩
   case measure => have := HKT.out; simp [intOf]; omega
  ·obtain rfl : k = n := by omega
   have HO : Hid (Ow wr base u0 (l0 ++ encNs cs ns)) := hide (by rw [hnn.out, List.take_length] at ho; exact ho)
   have HBL := hide hbl;have HS := hide hsz
   have HNL : Hid ((encNs cs ns).length ≤ 900) := hide (by
    have h1 := encNs_len (cs := cs) (ns := ns) (fun o ho => (HN.out o ho).2)
    have := HN9.out
    omega)
   have k2 := HBX.out wr hbl;clear ho hbl hsz hlt hk
   go_wp2_with fail
   go_loopw [0, 23] (fun v0 v23 wr => ∃ j : Nat, v23 = .int .i64 j ∧ j ≤ m ∧ Ow wr base v0 (l0 ++ (encNs cs ns ++ encLs (lss.take j))) ∧ Below base w wr ∧ base ≤ wr.heap.size) (fun _ v23 _ => m - (intOf v23).toNat)
   case atStart => exact ⟨0, rfl, Nat.zero_le _, by simpa [encLs] using HO.out, HBL.out, HS.out⟩
   case round =>
    obtain ⟨j, rfl, hj, ho, hbl, hsz⟩ := hrel
    clear HO HBL HS k2
    by_cases hlt : j < m
    ·have hjl : j < ls.length := by rw [← hmm.out]; exact hlt
     have hjs : j < lss.length := by rw [HLS.out.1]; exact hjl
     obtain ⟨g, o, rfl, hcp⟩ := (HQ4.out.ptrs (HF.out.below hbl).all HL9.out).at_ j hjl
     obtain ⟨Ax, nx, cx, hx⟩ := HT.out.slices ls[j] (HLL.out ls[j] (List.getElem_mem hjl))
     have hx2 := ((HF.out.below hbl).cell ls[j]).trans hx
     have hli := (HLS.out.2 j hjl hjs).below hbl
     rw [slAt_eq hx] at hli
     have HFL : Hid (encLs (lss.take (j + 1)) = encLs (lss.take j) ++ encL lss[j]) := hide (flat_snoc encL lss j hjs)
     have HTT : Hid ((encLs (lss.take j)).length + 9 * (lss[j].length + 1) ≤ 9895604649984) := hide (by
      have h1 := encLs_len (lss := lss.take j) (fun l hl => HLI.out l (List.mem_of_mem_take hl))
      have h2 := totL_take lss j hjs
      have := HSZ.out
      omega)
     have HLX := hide hli;have HO := hide ho;have HBL := hide hbl;have HS := hide hsz;have HKT := hide hlt
     have hki : (j : Int) < (m : Int) := by omega
     generalize lss[j] = lj at *
     generalize ls[j] = oj at *
     clear ho hbl hsz hx hli hjl hjs hlt hj
     go_wp2_with fail
     refine (appendInts_c base u0 _ _ lj wr HO.out HS.out HLX.out (by rw [List.length_append, List.length_append]; have := HL0.out; have := HNL.out; have := HTT.out; omega)).mono ?_
     rintro e w2 ⟨v2, rfl, ho2, hb2, hs2⟩
     have HO2 := hide ho2
     have HB2 := hide (below_trans HBL.out hb2)
     have HS2 : Hid (base ≤ w2.heap.size) := hide (Nat.le_trans HS.out hs2)
     clear ho2 hb2 hs2 hcp hx2 HO HBL
     go_wp2_with fail
     go_roundw
     case rel => exact ⟨j + 1, by go_num, HKT.out, by rw [HFL.out]; have := HO2.out; simpa [List.append_assoc] using this, HB2.out, HS2.out⟩
     case measure => have := HKT.out; simp [intOf]; omega
    ·obtain rfl : j = m := by omega
     have HO : Hid (Ow wr base u0 (l0 ++ (encNs cs ns ++ encLs lss))) := hide (by rw [hmm.out, ← HLS.out.1, List.take_length] at ho; exact ho)
     have HBL := hide hbl;clear ho hbl hsz hlt hj
     go_wp2_with fail
     go_ret
     exact ⟨_, rfl, HO.out, HBL.out, HBL.out.size⟩
end
end
section
open List renaming getElem_toArray → qa, getElem_cons_zero → qb, getElem_cons_succ → qc, setIfInBounds_toArray → qd, set_cons_zero → qe, set_cons_succ → qf
open Go.ChangeShapes Go.WideShapes Go.ChangeAt Go.RowKit
theorem below_drew2 (B : Nat) (w : World) : Below B w w.drew := (Below.refl _ _).drew
section
variable {w : World} {base : Nat} {L : LB} {b bm : Nat} {cs : List Value}
theorem uwrite_c (hF : FB w base L b bm cs) {b7 bn bl : Nat} (h7 : (b7, 98, [.func (.func 82) #[] #[at0 bn, at0 bl]]) ∈ L) (hp : PartB L b [13, 14, 15] [] bn bl) (hT : MsgT cs) (hi : ∀ o ∈ [13, 14, 15, 16], I64 (numAt cs o)) :
 Writes w 52 [at0 b7, at0 bm] base (encNs cs [13, 14, 15] ++ encI (numAt cs 16)) := by
 intro v l0 ho hb hl0
 obtain ⟨x, hx⟩ := hT.ints 16 (by decide)
 have hix := hi 16 (by simp)
 rw [numAt_eq hx] at hix ⊢
 have HCS : Hid (∀ W, Below base w W → (fun W => W.cell? ⟨b7, 0, none⟩ = some (.func (.func 82) #[] #[at0 bn, at0 bl]) ∧ W.cell? ⟨bm, 0, none⟩ = some (at0 b) ∧ W.cell? ⟨b, 16, none⟩ = some (.int .i64 x)) W) := hide (fun W k => ⟨(hF.below k).box h7, (hF.below k).box hF.bm, ((hF.below k).cell 16).trans hx⟩)
 have HPW : Hid (∀ W, Below base w W → Writes W 82 [at0 bn, at0 bl] base (encNs cs [13, 14, 15])) := hide (fun W k => by
  have := pwrite_c (hF.below k) hp hT (lss := []) (fun o ho => ⟨by revert o; decide, hi o (by simp only [List.mem_cons, List.not_mem_nil, or_false] at ho ⊢; omega)⟩) (fun o ho => by cases ho) (by decide) (by decide) ⟨rfl, fun i h => by cases h⟩ (by decide)
  simpa [encLs] using this)
 have HLM : Hid ((encNs cs [13, 14, 15]).length ≤ 27) := hide (encNs_len (cs := cs) (ns := [13, 14, 15]) (fun o ho => hi o (by simp only [List.mem_cons, List.not_mem_nil, or_false] at ho ⊢; omega)))
 have HX := hide hix;have HO := hide ho;have HB := hide hb;have HL0 := hide hl0
 generalize encNs cs [13, 14, 15] = mm at *
 clear ho hb hl0 hix hx
 show Calls Try.prog _ #[v, at0 b7, at0 bm] w _
 go_enter Try.func52, Try.ntmps52
 go_wp2_with fail
 refine wp_region_held_drew (S := fun W => W.cell? ⟨b7, 0, none⟩ = some (.func (.func 82) #[] #[at0 bn, at0 bl]) ∧ W.cell? ⟨bm, 0, none⟩ = some (at0 b) ∧ W.cell? ⟨b, 16, none⟩ = some (.int .i64 x)) (by kernel_rfl) (HCS.out _ (below_drew2 _ _)) (fun hS0 => ?_)
 replace HO : Hid (Ow w.drew base v l0) := hide HO.out
 replace HB : Hid (base ≤ w.drew.heap.size) := hide HB.out
 have HBL := hide (below_drew2 base w)
 refine tk 0 ?_;refine tk 1 ?_;refine tk 3 ?_;refine tk 4 ?_;refine tk 5 ?_;refine tk 6 ?_;refine tk 7 ?_
 refine tr1 2 fun K hK => ?_
 go_simp
 refine (HPW.out _ HBL.out v l0 HO.out HB.out (by have := HL0.out; omega)).mono ?_
 rintro e w2 ⟨v2, rfl, ho2, hb2, hs2⟩
 have HO2 := hide ho2
 replace HBL := hide (below_trans HBL.out hb2)
 have HS2 : Hid (base ≤ w2.heap.size) := hide (Nat.le_trans HB.out hs2)
 clear ho2 hb2 hs2
 refine hK.out _ _ (HCS.out _ HBL.out) (fun hS7 => ?_)
 clear hK K
 try simp only [Act.put, qa, qb, qc, qd, qe, qf]
 refine tr1 8 fun K hK => ?_
 go_simp
 refine (appendInt_c base v2 _ x HX.out.1 HX.out.2 w2 HO2.out (by rw [List.length_append]; have := HL0.out; have := HLM.out; omega) HS2.out).mono ?_
 rintro e w3 ha
 obtain ⟨v3, rfl, ho3, hb3, hs3⟩ := ha.app HO2.out HS2.out
 have HO3 := hide ho3
 replace HBL := hide (below_trans HBL.out hb3)
 clear ha ho3 hb3 hs3
 refine hK.out _ _ (HCS.out _ HBL.out) (fun hS8 => ?_)
 clear hK K
 try simp only [Act.put, qa, qb, qc, qd, qe, qf]
 refine tk 9 ?_
 refine wpAnyH_done (by kernel_rfl) ?_ _
 clear hS0
 go_wp2_with fail
 go_ret
 exact ⟨_, rfl, by have := HO3.out; simpa [List.append_assoc, encI] using this, HBL.out, HBL.out.size⟩
end
end
section
open Go.ChangeShapes Go.WideShapes Go.ChangeAt Go.RowKit
/-- The writer at the block p has written m; its array is the block k. -/
def Wt (w : World) (p : Nat) (k : Option Nat) (m : List UInt8) : Prop := ∃ v, Blk w p 151 #[v] ∧ Ow w (p + 1) v m ∧ v.ownBlock = k
def KN (w : World) (k k' : Option Nat) : Prop := k' = k ∨ ∃ g, k' = some g ∧ w.heap.size ≤ g
/-- A call of the writer: m is what it has written then. -/
def WtR (w : World) (p : Nat) (k : Option Nat) (m : List UInt8) (e : Ending) (w' : World) : Prop := e = .returned (.tuple #[]) ∧ ∃ k', Wt w' p k' m ∧ Touch (p :: k.toList) w w' ∧ KN w k k'
section
variable {w w' w'' : World} {p : Nat} {k k' k'' : Option Nat} {m : List UInt8}
theorem Wt.lt (h : Wt w p k m) : p < w.heap.size := by obtain ⟨v, hB, _⟩ := h; exact hB.lt
theorem Wt.k_lt (h : Wt w p k m) : ∀ g, k = some g → p < g ∧ g < w.heap.size := by
 obtain ⟨v, hB, ho, rfl⟩ := h
 intro g hg
 have := ho.lt g hg
 omega
theorem Wt.touch {S : List Nat} (h : Wt w p k m) (ht : Touch S w w') (h1 : p ∉ S) (h2 : ∀ g, k = some g → g ∉ S) : Wt w' p k m := by
 obtain ⟨v, hB, ho, rfl⟩ := h
 exact ⟨v, hB.touch ht h1, ho.touch ht h2, rfl⟩
theorem Wt.step (h : Wt w p k m) (hb : Below w.heap.size w w') : Wt w' p k m := h.touch (Touch.below hb []) (by simp) (by simp)
theorem KN.refl (w : World) (k : Option Nat) : KN w k k := .inl rfl
theorem KN.next (h : KN w k k') (hs : w.heap.size ≤ w'.heap.size) (h2 : KN w' k' k'') : KN w k k'' := by
 rcases h2 with rfl | ⟨g, rfl, hg⟩
 ·exact h
 ·exact .inr ⟨g, rfl, by omega⟩
theorem Touch.kn (h : Touch (p :: k.toList) w w') (hk : KN w k k') (h2 : Touch (p :: k'.toList) w' w'') : Touch (p :: k.toList) w w'' := by
 refine h.next h2 (fun t ht => ?_)
 rcases List.mem_cons.1 ht with rfl | ht
 ·exact .inl (by simp)
 ·have e : k' = some t := by simpa using ht
  rcases hk with rfl | ⟨g, e2, hg⟩
  ·exact .inl (by simp [e])
  ·rw [e] at e2
   injection e2 with e2
   exact .inr (by omega)
theorem WtR.then {e : Ending} {m2 : List UInt8} {e2 : Ending} (h2 : Touch (p :: k.toList) w w') (hk : KN w k k') (h : WtR w' p k' m2 e2 w'') : WtR w p k m2 e2 w'' := by
 obtain ⟨rfl, k3, h3, h4, h5⟩ := h
 exact ⟨rfl, k3, h3, h2.kn hk h4, hk.next h2.size h5⟩
/-- A block of another kind lies apart from the writer's. -/
theorem Wt.apart (h : Wt w p k m) {b : Nat} {t : TypeId} {cs : Array Value} (hb : Blk w b t cs) (h1 : t ≠ 151) (h2 : t ≠ 5) : b ∉ p :: k.toList := by
 obtain ⟨v, hB, ho, rfl⟩ := h
 intro hm
 rcases List.mem_cons.1 hm with rfl | hm
 ·unfold Blk at hB hb
  rw [hB] at hb
  injection hb with hb; injection hb with _ hb
  exact h1 hb.symm
 ·have e : v.ownBlock = some b := by simpa using hm
  obtain ⟨_, ⟨rfl, _⟩ | ⟨g, cap, cur, rfl, _, hh, _⟩⟩ := ho
  ·cases e
  ·injection e with e
   subst e
   unfold Blk at hb
   rw [hh] at hb
   injection hb with hb; injection hb with _ hb
   exact h2 hb.symm
end
/-- What AppendInt and its like leave, stored in the writer. -/
theorem Wt.append {w w1 w2 : World} {p : Nat} {v v' : Value} {m r : List UInt8} (hB : Blk w p 151 #[v]) (ho : Ow w (p + 1) v m) (hv' : Ow w1 (p + 1) v' r) (hg : w.grownBy w1 v.ownBlock) (ha : v'.ownBlock = v.ownBlock ∨ ∃ g, v'.ownBlock = some g ∧ w.heap.size ≤ g)
 (hB2 : Blk w2 p 151 #[v']) (ht : Touch [p] w1 w2) : Wt w2 p v'.ownBlock r ∧ Touch (p :: v.ownBlock.toList) w w2 ∧ KN w v.ownBlock v'.ownBlock := by
 refine ⟨⟨v', hB2, hv'.touch ht (fun j hj => by have := (hv'.lt j hj).1; simp; omega), rfl⟩, ?_, ha⟩
 refine ((Touch.grown hg).mono (fun s hs => .inl (List.mem_cons_of_mem _ hs))).trans (ht.mono (fun s hs => .inl ?_))
 have e : s = p := by simpa using hs
 simp [e]
theorem wt_cells {w : World} {p : Nat} {v : Value} (h : Blk w p 151 #[v]) : w.cell? ⟨p, 0, none⟩ = some v ∧ w.frozen? ⟨p, 0, none⟩ = false := ⟨h.cell 0, h.froz 0⟩
set_option maxHeartbeats 2000000 in
theorem ints_c (p : Nat) (k : Option Nat) (m : List UInt8) (lv : Value) (l : List Int) (w : World) (h : Wt w p k m) (hl : Li w lv l) (hd : l ≠ [] → ∀ j, lv.ownBlock = some j → j ∉ p :: k.toList) (hs : m.length + 9 * (l.length + 1) ≤ 35184372088832) :
 Calls Try.prog 94 #[at0 p, lv] w (WtR w p k (m ++ l.flatMap encI)) := by
 obtain ⟨A, n, c, rfl, hn, hnc, hcm⟩ := hl.form
 have H := hide h;have HL := hide hl;have HD := hide hd;have HS := hide hs;clear h hl hd hs
 go_enter Try.func94, Try.ntmps94
 go_wp2_with fail
 go_loopw [8] (fun v8 wr => ∃ (j : Nat) (k' : Option Nat), v8 = .int .i64 j ∧ j ≤ n ∧ Wt wr p k' (m ++ (l.take j).flatMap encI) ∧ Touch (p :: k.toList) w wr ∧ KN w k k') (fun v8 _ => n - (intOf v8).toNat)
 case atStart => exact ⟨0, k, rfl, Nat.zero_le _, by simpa using H.out, Touch.refl _ _, KN.refl _ _⟩
 case round =>
  obtain ⟨j, k', rfl, hj, hw, ht, hk⟩ := hrel
  by_cases hlt : j < n
  ·have hjl : j < l.length := by rw [← hn.out]; exact hlt
   have hlr := HL.out.touch ht HD.out
   obtain ⟨g, o, rfl, hc⟩ := hlr.at_ j hjl
   have hcell := hc j hjl
   have hx : I64 l[j] := by obtain ⟨_, _, _, _, _, h3, _⟩ := HL.out; exact h3 _ (List.getElem_mem hjl)
   have HFL := hide (flat_snoc encI l j hjl)
   have HLN : Hid (((l.take j).flatMap encI).length ≤ 9 * l.length) := hide (by
    have h1 := flat_len (l := l.take j) (fun x hx => by obtain ⟨_, _, _, _, _, h3, _⟩ := HL.out; exact h3 x (List.mem_of_mem_take hx))
    rw [List.length_take] at h1; omega)
   have HX := hide hx
   generalize l[j] = x at *
   obtain ⟨v, hB, ho, rfl⟩ := hw
   obtain ⟨c0, f0⟩ := wt_cells hB
   obtain ⟨Av, nv, cv, rfl, _, _, _⟩ := ho.formN
   have HO := hide ho;have HBB := hide hB;have HT := hide ht;have HK := hide hk;have HJ := hide hlt
   have hji : (j : Int) < (n : Int) := by omega
   clear ht hk hlr hc hx hjl hlt hj ho hB
   go_wp2_with fail
   refine (appendInt_c (p + 1) _ _ x HX.out.1 HX.out.2 wr HO.out (by rw [List.length_append]; have := HS.out; have := HLN.out; omega) HBB.out.lt).mono ?_
   rintro e w2 ⟨v2, rfl, ho2, _, hg2, ha2⟩
   have hB2 := HBB.out.grown hg2 (fun e => by have := (HO.out.lt p e.symm).1; omega)
   obtain ⟨c2, f2⟩ := wt_cells hB2
   have HB2 := hide hB2;have HO2 := hide ho2;have HG2 := hide hg2;have HA2 := hide ha2
   obtain ⟨A2, n2, cc2, rfl, _, _, _⟩ := ho2.formN
   clear hB2 ho2 hg2 ha2 c0 f0 hcell
   go_wp2_with fail
   go_roundw
   case rel =>
    obtain ⟨r1, r2, r3⟩ := Wt.append HBB.out HO.out HO2.out HG2.out HA2.out (w2 := w2.setCell ⟨p, 0, none⟩ (.slice A2 n2 cc2)) (by simpa using HB2.out.put 0 (.slice A2 n2 cc2)) ((Touch.refl [p] w2).set (.inl (by simp)) 0 _)
    exact ⟨j + 1, _, by go_num, HJ.out, by rw [HFL.out, ← List.append_assoc]; exact r1, HT.out.kn HK.out r2, HK.out.next HT.out.size r3⟩
   case measure => have := HJ.out; simp [intOf]; omega
  ·obtain rfl : j = n := by omega
   have HW : Hid (Wt wr p k' (m ++ l.flatMap encI)) := hide (by rw [hn.out, List.take_length] at hw; exact hw)
   have HT := hide ht;have HK := hide hk;clear hw ht hk hlt hj
   go_wp2_with fail
   go_end0
   exact ⟨rfl, _, HW.out, HT.out, HK.out⟩
set_option maxHeartbeats 2000000 in
theorem text_c (p : Nat) (k : Option Nat) (m : List UInt8) (t : ByteArray) (w : World) (h : Wt w p k m) (hs : m.length + t.size ≤ 17592186044416) :
 Calls Try.prog 96 #[at0 p, .string t] w (WtR w p k (m ++ encT t)) := by
 have HS := hide hs
 obtain ⟨v, hB, ho, rfl⟩ := h
 obtain ⟨c0, f0⟩ := wt_cells hB
 obtain ⟨Av, nv, cv, rfl, _, _, _⟩ := ho.formN
 have HO := hide ho;have HBB := hide hB;clear ho hB hs
 go_enter Try.func96, Try.ntmps96
 go_wp2_with fail
 refine (appendText_c (p + 1) _ _ t w HO.out (by have := HS.out; omega) (by have := HS.out; omega) HBB.out.lt).mono ?_
 rintro e w2 ⟨v2, rfl, ho2, _, hg2, ha2⟩
 have hB2 := HBB.out.grown hg2 (fun e => by have := (HO.out.lt p e.symm).1; omega)
 obtain ⟨c2, f2⟩ := wt_cells hB2
 have HB2 := hide hB2;have HO2 := hide ho2;have HG2 := hide hg2;have HA2 := hide ha2
 obtain ⟨A2, n2, cc2, rfl, _, _, _⟩ := ho2.formN
 clear hB2 ho2 hg2 ha2 c0 f0
 go_wp2_with fail
 go_end0
 obtain ⟨r1, r2, r3⟩ := Wt.append HBB.out HO.out HO2.out HG2.out HA2.out (w2 := w2.setCell ⟨p, 0, none⟩ (.slice A2 n2 cc2)) (by simpa using HB2.out.put 0 (.slice A2 n2 cc2)) ((Touch.refl [p] w2).set (.inl (by simp)) 0 _)
 exact ⟨rfl, _, r1, r2, r3⟩
end
section
open Go.ChangeShapes Go.WideShapes Go.ChangeAt Go.RowKit
/-- A list's bytes, as the writer has them. -/
def encQ (l : List Int) : List UInt8 := encI l.length ++ l.flatMap encI
def encC (a b c : List Int) : List UInt8 := encQ a ++ (encQ b ++ encQ c)
theorem encQ_len {l : List Int} (h : ∀ x ∈ l, I64 x) (hl : l.length ≤ 2 ^ 60) : (encQ l).length ≤ 9 * (l.length + 1) := by
 unfold encQ
 rw [List.length_append]
 have := encI_len (x := l.length) ⟨by omega, by omega⟩
 have := flat_len h
 omega
theorem KN.mono {w w' : World} {k k' : Option Nat} (h : KN w' k k') (hs : w.heap.size ≤ w'.heap.size) : KN w k k' := h.imp id (fun ⟨g, e, hg⟩ => ⟨g, e, by omega⟩)
theorem li_one {w : World} {g : Nat} {x : Int} (h : Blk w g 3 #[.int .i64 x]) (hx : I64 x) : Li w (.slice (some ⟨g, 0, none⟩) 1 1) [x] :=
 ⟨_, 1, rfl, Nat.le_refl _, by unfold maxLen; omega, by simpa [I64] using hx, fun _ => ⟨g, 0, rfl, h.lt, fun i hi => by
  have e : i = 0 := by simpa using hi
  subst e
  exact h.cell 0⟩⟩
theorem Li.kn {w : World} {p : Nat} {k k' : Option Nat} {lv : Value} {l : List Int} (h : Li w lv l) (hd : l ≠ [] → ∀ j, lv.ownBlock = some j → j ∉ p :: k.toList) (hk : KN w k k') : l ≠ [] → ∀ j, lv.ownBlock = some j → j ∉ p :: k'.toList := by
 intro hne j hj hm
 rcases hk with rfl | ⟨g, rfl, hg⟩
 ·exact hd hne j hj hm
 ·have hjl : j < w.heap.size := by
   obtain ⟨A, c, rfl, _, _, _, h3⟩ := h
   obtain ⟨g', o, rfl, hg', _⟩ := h3 (List.length_pos_iff.2 hne)
   injection hj with hj
   subst hj
   exact hg'
  rcases List.mem_cons.1 hm with rfl | hm
  ·exact hd hne j hj (by simp)
  ·have e : j = g := by simpa using hm
   omega
set_option maxHeartbeats 2000000 in
theorem list_c (p : Nat) (k : Option Nat) (m : List UInt8) (lv : Value) (l : List Int) (w : World) (h : Wt w p k m) (hl : Li w lv l) (hd : l ≠ [] → ∀ j, lv.ownBlock = some j → j ∉ p :: k.toList) (hs : m.length + 9 * (l.length + 4) ≤ 17592186044416) :
 Calls Try.prog 102 #[at0 p, lv] w (WtR w p k (m ++ encQ l)) := by
 obtain ⟨A, n, c, rfl, hn, hnc, hcm⟩ := hl.form
 have H := hide h;have HL := hide hl;have HD := hide hd;have HS := hide hs
 have HO := hide (Own.nil w [] (by simp))
 have HNI : Hid (I64 (n : Int)) := hide ⟨by omega, by omega⟩
 clear h hl hd hs
 go_enter Try.func102, Try.ntmps102
 go_wp2_with ((with_reducible refine at_sliceV 28 1 _ ?_); refine wpList_slice_ownV HO.out rfl 28 3 _ ([.int .i64 n]) rfl (by simp [Act.eval]) Try.underlying28 (by kernel_rfl) (by kernel_rfl) (by simp [Value.cells]) (by simp) (by simp) ?_; intro WA gl hO; replace HO := hide hO; clear hO)
 have hbl := HO.out.below;have hB := HO.out.blk 0 rfl;have hW := H.out.step hbl
 refine (ints_c p k m _ [(n : Int)] WA hW (li_one hB HNI.out) (fun _ j hj => by injection hj with hj; subst hj; exact hW.apart hB (by decide) (by decide)) (by have := HS.out; show _ + 9 * 2 ≤ _; omega)).mono ?_
 rintro e w2 ⟨rfl, k2, hw2, ht2, hk2⟩
 have HT2 : Hid (Touch (p :: k.toList) w w2) := hide ((Touch.below hbl _).trans ht2)
 have HK2 : Hid (KN w k k2) := hide (hk2.mono hbl.size)
 have HW2 := hide hw2;clear hw2 ht2 hk2 hW hB hbl HO
 go_wp2_with fail
 refine (ints_c p k2 _ _ l w2 HW2.out (HL.out.touch HT2.out HD.out) (HL.out.kn HD.out HK2.out) (by rw [List.length_append]; have := HS.out; have := encI_len HNI.out; simp; omega)).mono ?_
 rintro e w3 ⟨rfl, k3, hw3, ht3, hk3⟩
 have HW3 := hide hw3
 have HT3 := hide (HT2.out.kn HK2.out ht3)
 have HK3 := hide (HK2.out.next HT2.out.size hk3)
 clear hw3 ht3 hk3
 go_wp2_with fail
 go_end0
 refine ⟨rfl, k3, ?_, HT3.out, HK3.out⟩
 have := HW3.out
 rw [List.append_assoc] at this
 have e : encQ l = [(n : Int)].flatMap encI ++ l.flatMap encI := by unfold encQ; rw [hn.out]; simp
 rw [e]; exact this
set_option maxHeartbeats 2000000 in
theorem config_c (p : Nat) (k : Option Nat) (m : List UInt8) (va vb vc : Value) (a b c : List Int) (w : World) (h : Wt w p k m) (ha : Li w va a ∧ Li w vb b ∧ Li w vc c)
 (hda : a ≠ [] → ∀ j, va.ownBlock = some j → j ∉ p :: k.toList) (hdb : b ≠ [] → ∀ j, vb.ownBlock = some j → j ∉ p :: k.toList) (hdc : c ≠ [] → ∀ j, vc.ownBlock = some j → j ∉ p :: k.toList) (hs : m.length + 9 * (a.length + b.length + c.length + 20) ≤ 17592186044416) :
 Calls Try.prog 103 #[at0 p, .agg #[va, vb, vc]] w (WtR w p k (m ++ encC a b c)) := by
 obtain ⟨ha, hb, hc⟩ := ha
 obtain ⟨A1, n1, c1, rfl, hn1, _, _⟩ := ha.form
 obtain ⟨A2, n2, c2, rfl, hn2, _, _⟩ := hb.form
 obtain ⟨A3, n3, c3, rfl, hn3, _, _⟩ := hc.form
 have H := hide h;have HLA := hide ha;have HLB := hide hb;have HLC := hide hc;have HDA := hide hda;have HDB := hide hdb;have HDC := hide hdc;have HS := hide hs
 have HO := hide (Own.nil w [] (by simp))
 have la : Hid ((encQ a).length ≤ 9 * (a.length + 1)) := hide (encQ_len (by obtain ⟨_, _, _, _, _, h3, _⟩ := ha; exact h3) (by omega))
 have lb : Hid ((encQ b).length ≤ 9 * (b.length + 1)) := hide (encQ_len (by obtain ⟨_, _, _, _, _, h3, _⟩ := hb; exact h3) (by omega))
 clear h ha hb hc hda hdb hdc hs
 go_enter Try.func103, Try.ntmps103
 go_wp2_with ((with_reducible refine at_box 34 (.tmp 1) ?_); refine wpList_box_own HO.out rfl 34 (.tmp 1) rfl ([.slice A1 n1 c1, .slice A2 n2 c2, .slice A3 n3 c3]) rfl ?_; intro WA bx hO; replace HO := hide hO; clear hO; have k0 := HO.out.cells 0 rfl)
 have hbl := HO.out.below
 have HB := hide (HO.out.blk 0 rfl)
 have hW := H.out.step hbl
 refine (list_c p k m _ a WA hW (HLA.out.step hbl) HDA.out (by have := HS.out; omega)).mono ?_
 rintro e w2 ⟨rfl, k2, hw2, ht2, hk2⟩
 replace HB := hide (HB.out.touch ht2 (hW.apart HB.out (by decide) (by decide)))
 have HT2 : Hid (Touch (p :: k.toList) w w2) := hide ((Touch.below hbl _).trans ht2)
 have HK2 : Hid (KN w k k2) := hide (hk2.mono hbl.size)
 have HW2 := hide hw2;clear hw2 ht2 hk2 hW hbl HO k0
 have k0 := fun j => (HB.out.cell j)
 go_wp2_with fail
 refine (list_c p k2 _ _ b w2 HW2.out (HLB.out.touch HT2.out HDB.out) (HLB.out.kn HDB.out HK2.out) (by rw [List.length_append]; have := HS.out; have := la.out; omega)).mono ?_
 rintro e w3 ⟨rfl, k3, hw3, ht3, hk3⟩
 replace HB := hide (HB.out.touch ht3 (HW2.out.apart HB.out (by decide) (by decide)))
 have HT3 := hide (HT2.out.kn HK2.out ht3)
 have HK3 := hide (HK2.out.next HT2.out.size hk3)
 have HW3 := hide hw3;clear hw3 ht3 hk3 k0
 have k0 := fun j => (HB.out.cell j)
 go_wp2_with fail
 refine (list_c p k3 _ _ c w3 HW3.out (HLC.out.touch HT3.out HDC.out) (HLC.out.kn HDC.out HK3.out) (by rw [List.length_append, List.length_append]; have := HS.out; have := la.out; have := lb.out; omega)).mono ?_
 rintro e w4 ⟨rfl, k4, hw4, ht4, hk4⟩
 have HW4 := hide hw4
 have HT4 := hide (HT3.out.kn HK3.out ht4)
 have HK4 := hide (HK3.out.next HT3.out.size hk4)
 clear hw4 ht4 hk4 k0
 go_wp2_with fail
 go_end0
 exact ⟨rfl, k4, by have := HW4.out; unfold encC; simpa [List.append_assoc] using this, HT4.out, HK4.out⟩
end
section
open Go.ChangeShapes Go.WideShapes Go.ChangeAt Go.RowKit
/-- An entry of a group's log. -/
structure En where
 index : Int
 term : Int
 kind : Int
 client : Int
 number : Int
 body : ByteArray
 gen : Int
 step : Int
 ck : Int
 cm : Int
 cf : List Int
 ct : List Int
 co : List Int
 cn : List Int
 cl : List Int
structure En.Ok (x : En) : Prop where
 ints : ∀ y ∈ [x.index, x.term, x.kind, x.client, x.number, x.gen, x.step, x.ck, x.cm], I64 y
 lists : ∀ l ∈ [x.cf, x.ct, x.co, x.cn, x.cl], (∀ y ∈ l, I64 y) ∧ l.length ≤ 2 ^ 60
 body : x.body.size < 2 ^ 60
def En.size (x : En) : Nat := x.body.size + x.cf.length + x.ct.length + x.co.length + x.cn.length + x.cl.length + 40
def encE (x : En) : List UInt8 := ([x.index, x.term, x.kind, x.client, x.number].flatMap encI) ++ (encT x.body ++ (([x.gen, x.step, x.ck, x.cm].flatMap encI) ++ (encQ x.cf ++ (encQ x.ct ++ encC x.co x.cn x.cl))))
theorem encT_len (t : ByteArray) (h : t.size < 2 ^ 60) : (encT t).length ≤ 9 + t.size := by
 unfold encT
 rw [List.length_append]
 have h1 := enc_len t.size (by omega)
 have e : t.data.toList.length = t.size := by rw [Array.length_toList]; rfl
 omega
theorem En.Ok.lens {x : En} (h : x.Ok) : ([x.index, x.term, x.kind, x.client, x.number].flatMap encI).length ≤ 45 ∧ (encT x.body).length ≤ 9 + x.body.size ∧ ([x.gen, x.step, x.ck, x.cm].flatMap encI).length ≤ 36 ∧ (encQ x.cf).length ≤ 9 * (x.cf.length + 1) ∧ (encQ x.ct).length ≤ 9 * (x.ct.length + 1) ∧ (encC x.co x.cn x.cl).length ≤ 9 * (x.co.length + x.cn.length + x.cl.length + 3) := by
 have q : ∀ l ∈ [x.cf, x.ct, x.co, x.cn, x.cl], (encQ l).length ≤ 9 * (l.length + 1) := fun l hl => encQ_len (h.lists l hl).1 (h.lists l hl).2
 have q3 := q x.co (by simp)
 have q4 := q x.cn (by simp)
 have q5 := q x.cl (by simp)
 refine ⟨?_, encT_len _ h.body, ?_, q x.cf (by simp), q x.ct (by simp), ?_⟩
 ·have := flat_len (l := [x.index, x.term, x.kind, x.client, x.number]) (fun y hy => h.ints y (by simp only [List.mem_cons, List.not_mem_nil, or_false] at hy ⊢; omega))
  simpa using this
 ·have := flat_len (l := [x.gen, x.step, x.ck, x.cm]) (fun y hy => h.ints y (by simp only [List.mem_cons, List.not_mem_nil, or_false] at hy ⊢; omega))
  simpa using this
 ·unfold encC
  rw [List.length_append, List.length_append]
  omega
theorem En.Ok.len {x : En} (h : x.Ok) : (encE x).length ≤ 20 * x.size := by
 obtain ⟨h1, h2, h3, h4, h5, h6⟩ := h.lens
 unfold encE En.size
 simp only [List.length_append]
 omega
def totE (l : List En) : Nat := (l.map En.size).sum
theorem totE_take (l : List En) (k : Nat) (h : k < l.length) : totE (l.take k) + l[k].size ≤ totE l := by
 induction l generalizing k with
 | nil => simp at h
 | cons x r ih =>
  cases k with
  | zero => simp [totE]
  | succ k =>
   have := ih k (by simpa using h)
   simp only [totE, List.take_succ_cons, List.map_cons, List.sum_cons, List.getElem_cons_succ] at this ⊢
   omega
theorem encEs_len {l : List En} (h : ∀ x ∈ l, x.Ok) : (l.flatMap encE).length ≤ 20 * totE l := by
 unfold totE
 induction l with
 | nil => simp
 | cons x r ih =>
  rw [List.flatMap_cons, List.length_append, List.map_cons, List.sum_cons]
  have h1 := (h x (by simp)).len
  have h2 := ih (fun y hy => h y (by simp [hy]))
  omega
/-- The cells of an entry in memory. -/
def EnC (w : World) (B : Nat) (cs : List Value) (x : En) : Prop := ∃ vf vt vo vn vl, cs = [.int .i64 x.index, .int .i64 x.term, .int .i64 x.kind, .int .i64 x.client, .int .i64 x.number, .string x.body, .int .i64 x.gen, .int .i64 x.step, .int .i64 x.ck, .int .i64 x.cm, vf, vt, vo, vn, vl] ∧
 LiB w B vf x.cf ∧ LiB w B vt x.ct ∧ LiB w B vo x.co ∧ LiB w B vn x.cn ∧ LiB w B vl x.cl
def EnsIn (w : World) (B : Nat) (v : Value) (l : List En) : Prop :=
 ∃ A c, v = .slice A l.length c ∧ l.length ≤ c ∧ c ≤ maxLen ∧ (∀ x ∈ l, x.Ok) ∧ (0 < l.length → ∃ g o, A = some ⟨g, o, none⟩ ∧ g < B ∧ ∀ i (h : i < l.length), ∃ cs, EnC w B cs l[i] ∧ w.rangeAt g (o + i * 15) cs)
theorem EnC.below {w w' : World} {B : Nat} {cs : List Value} {x : En} (h : EnC w B cs x) (k : Below B w w') : EnC w' B cs x := by
 obtain ⟨vf, vt, vo, vn, vl, e, h1, h2, h3, h4, h5⟩ := h
 exact ⟨vf, vt, vo, vn, vl, e, h1.below k, h2.below k, h3.below k, h4.below k, h5.below k⟩
theorem EnsIn.form {w : World} {B : Nat} {v : Value} {l : List En} (h : EnsIn w B v l) : ∃ A n c, v = .slice A n c ∧ Hid (n = l.length) ∧ n ≤ c ∧ c ≤ 9223372036854775807 := by
 obtain ⟨A, c, e, h1, h2, _⟩ := h; exact ⟨A, _, c, e, rfl, h1, by unfold maxLen at h2; omega⟩
theorem EnsIn.at_ {w w' : World} {B : Nat} {A : Option Addr} {n c : Nat} {l : List En} (h : EnsIn w B (.slice A n c) l) (k : Below B w w') (i : Nat) (hi : i < l.length) : ∃ g o cs, A = some ⟨g, o, none⟩ ∧ EnC w' B cs l[i] ∧ w'.rangeAt g (o + i * 15) cs ∧ l[i].Ok := by
 obtain ⟨A', c', e, h1, h2, h3, h4⟩ := h
 obtain ⟨rfl, rfl, rfl⟩ : A = A' ∧ n = l.length ∧ c = c' := by injection e with e1 e2 e3; exact ⟨e1, e2, e3⟩
 obtain ⟨g, o, rfl, hg, hc⟩ := h4 (by omega)
 obtain ⟨cs, h5, h6⟩ := hc i hi
 exact ⟨g, o, cs, rfl, h5.below k, fun j v hv => (k.cell (p := ⟨g, o + i * 15 + j, none⟩) hg).trans (h6 j v hv), h3 _ (List.getElem_mem hi)⟩
theorem LiB.li {w : World} {B : Nat} {v : Value} {l : List Int} (h : LiB w B v l) (hb : B ≤ w.heap.size) : Li w v l := h.mono hb
/-- What lies below the writer is apart from it. -/
theorem LiB.apart {w : World} {B p : Nat} {k : Option Nat} {v : Value} {l : List Int} (h : LiB w B v l) (hb : B ≤ p) (hk : ∀ g, k = some g → p < g) : l ≠ [] → ∀ j, v.ownBlock = some j → j ∉ p :: k.toList := by
 intro hne j hj hm
 obtain ⟨A, c, rfl, _, _, _, h3⟩ := h
 obtain ⟨g', o, rfl, hg', _⟩ := h3 (List.length_pos_iff.2 hne)
 injection hj with hj
 subst hj
 rcases List.mem_cons.1 hm with e | hm
 ·have e2 : g' = p := e
  omega
 ·have e : k = some g' := by simpa using hm
  have := hk g' e
  omega
theorem info_entry : (Try.prog.info? 116).map (·.zero) = some (some (.agg ([zi, zi, zi, zi, zi, zs, zi, zi, zi, zi, zl, zl, zl, zl, zl] : List Value).toArray)) := by kernel_rfl
theorem info_cmd : (Try.prog.info? 114).map (·.zero) = some (some (.agg ([zi, zi, zi, zs, zi, zi, zi, zi, zl, zl, zl, zl, zl] : List Value).toArray)) := by kernel_rfl
theorem size_entry : (Try.prog.info? 116).map (·.size) = some 15 := by kernel_rfl
theorem size_cmd : (Try.prog.info? 114).map (·.size) = some 13 := by kernel_rfl
theorem size_cfg : (Try.prog.info? 34).map (·.size) = some 3 := by kernel_rfl
theorem Touch.low {w w' : World} {B p : Nat} {k : Option Nat} (h : Touch (p :: k.toList) w w') (hb : B ≤ p) (hw : B ≤ w.heap.size) (hk : ∀ g, k = some g → p < g) : Below B w w' := h.to_below (fun s hs => by
 rcases List.mem_cons.1 hs with rfl | hs
 ·exact hb
 ·have e : k = some s := by simpa using hs
  have := hk s e
  omega) hw
end
section
open Go.ChangeShapes Go.WideShapes Go.ChangeAt Go.RowKit
theorem li_row {w : World} {g : Nat} {l : List Int} (h : Blk w g 3 (l.map fun x => Value.int .i64 x).toArray) (hx : ∀ x ∈ l, I64 x) (hl : l.length ≤ 100) : Li w (.slice (some ⟨g, 0, none⟩) l.length l.length) l :=
 ⟨_, l.length, rfl, Nat.le_refl _, by unfold maxLen; omega, hx, fun _ => ⟨g, 0, rfl, h.lt, fun i hi => by rw [Nat.zero_add, h.cell i]; simp [hi]⟩⟩
theorem below_size {B : Nat} {a b : World} (h : Below B a b) (hb : B ≤ a.heap.size) : B ≤ b.heap.size := Nat.le_trans hb h.size
set_option maxHeartbeats 8000000 in
theorem entries_c (p B : Nat) (hB : B ≤ p) (k : Option Nat) (m : List UInt8) (v : Value) (l : List En) (w : World) (h : Wt w p k m) (hE : EnsIn w B v l) (hs : m.length + 20 * (totE l + l.length + 4) ≤ 8796093022208) :
 Calls Try.prog 97 #[at0 p, v] w (WtR w p k (m ++ (encI l.length ++ l.flatMap encE))) := by
 obtain ⟨A, n, c, rfl, hn, hnc, hcm⟩ := hE.form
 have H := hide h;have HE := hide hE;have HS := hide hs;have HBP := hide hB
 have HBW : Hid (B ≤ w.heap.size) := hide (Nat.le_trans hB (Nat.le_of_lt h.lt))
 have HO := hide (Own.nil w [] (by simp))
 have HNI : Hid (I64 (n : Int)) := hide ⟨by omega, by omega⟩
 clear h hE hs hB
 go_enter Try.func97, Try.ntmps97
 go_wp2_with ((with_reducible refine at_sliceV 28 1 _ ?_); refine wpList_slice_ownV HO.out rfl 28 3 _ ([.int .i64 n]) rfl (by simp [Act.eval]) Try.underlying28 (by kernel_rfl) (by kernel_rfl) (by simp [Value.cells]) (by simp) (by simp) ?_; intro WA gl hO; replace HO := hide hO; clear hO)
 have hbl := HO.out.below;have hBg := HO.out.blk 0 rfl;have hW := H.out.step hbl
 refine (ints_c p k m _ [(n : Int)] WA hW (li_one hBg HNI.out) (fun _ j hj => by injection hj with hj; subst hj; exact hW.apart hBg (by decide) (by decide)) (by have := HS.out; show _ + 9 * 2 ≤ _; omega)).mono ?_
 rintro e w2 ⟨rfl, k2, hw2, ht2, hk2⟩
 have HT2 : Hid (Touch (p :: k.toList) w w2) := hide ((Touch.below hbl _).trans ht2)
 have HK2 : Hid (KN w k k2) := hide (hk2.mono hbl.size)
 have HW2 := hide hw2
 have HN9 : Hid (([(n : Int)].flatMap encI).length ≤ 9) := hide (by simpa using encI_len HNI.out)
 clear hw2 ht2 hk2 hW hBg hbl HO
 go_wp2_with fail
 go_loopw [14] (fun v14 wr => ∃ (j : Nat) (k' : Option Nat), v14 = .int .i64 j ∧ j ≤ n ∧ Wt wr p k' (m ++ ([(n : Int)].flatMap encI ++ (l.take j).flatMap encE)) ∧ Touch (p :: k.toList) w wr ∧ KN w k k' ∧ Below B w wr) (fun v14 _ => n - (intOf v14).toNat)
 case atStart => exact ⟨0, k2, rfl, Nat.zero_le _, by simpa using HW2.out, HT2.out, HK2.out, HT2.out.low HBP.out HBW.out (fun g hg => (H.out.k_lt g hg).1)⟩
 case round =>
  obtain ⟨j, k', rfl, hj, hw, ht, hk, hbl⟩ := hrel
  clear HW2 HT2 HK2
  by_cases hlt : j < n
  ·have hjl : j < l.length := by rw [← hn.out]; exact hlt
   obtain ⟨g, o, cs, rfl, ⟨vf, vt, vo, vn, vl, rfl, hf1, hf2, hf3, hf4, hf5⟩, hra, hok⟩ := HE.out.at_ hbl j hjl
   have HSZ : Hid (m.length + ([(n : Int)].flatMap encI).length + ((l.take j).flatMap encE).length + 20 * (l[j].size) ≤ 8796093022208) := hide (by
    have h1 := encEs_len (l := l.take j) (fun x hx => by obtain ⟨_, _, _, _, _, h3, _⟩ := HE.out; exact h3 x (List.mem_of_mem_take hx))
    have h2 := totE_take l j hjl
    have := HS.out
    have := HN9.out
    omega)
   have HFL := hide (flat_snoc encE l j hjl)
   obtain ⟨A1, n1, c1, rfl, hn1, _, _⟩ := hf1.form
   obtain ⟨A2, n2, c2, rfl, hn2, _, _⟩ := hf2.form
   obtain ⟨A3, n3, c3, rfl, hn3, _, _⟩ := hf3.form
   obtain ⟨A4, n4, c4, rfl, hn4, _, _⟩ := hf4.form
   obtain ⟨A5, n5, c5, rfl, hn5, _, _⟩ := hf5.form
   generalize l[j] = x at *
   have HRA := hide hra;have HF1 := hide hf1;have HF2 := hide hf2;have HF3 := hide hf3;have HF4 := hide hf4;have HF5 := hide hf5;have HOK := hide hok;have HW := hide hw;have HT := hide ht;have HK := hide hk;have HBL := hide hbl;have HJ := hide hlt
   have HO := hide (Own.nil wr [] (by simp))
   have hji : (j : Int) < (n : Int) := by omega
   clear hw ht hk hbl hra hf1 hf2 hf3 hf4 hf5 hok hjl hlt hj
   go_wp2_with (first
    | ((with_reducible refine at_load 116 (.tmp 16) ?_); refine wpList_load_mid rfl 116 (.tmp 16) rfl g (o + j * 15) rfl ([.int .i64 x.index, .int .i64 x.term, .int .i64 x.kind, .int .i64 x.client, .int .i64 x.number, .string x.body, .int .i64 x.gen, .int .i64 x.step, .int .i64 x.ck, .int .i64 x.cm, .slice A1 n1 c1, .slice A2 n2 c2, .slice A3 n3 c3, .slice A4 n4 c4, .slice A5 n5 c5]) _ HRA.out Try.underlying116 rfl size_entry ?_)
    | ((with_reducible refine at_alloc 116 ?_); refine wpList_alloc_own HO.out rfl 116 rfl ([zi, zi, zi, zi, zi, zs, zi, zi, zi, zi, zl, zl, zl, zl, zl]) info_entry ?_; intro WA b5 hO; replace HO := hide hO; clear hO)
    | ((with_reducible refine at_store 116 (.tmp 5) ?_); refine wpList_store_own HO.out rfl 116 (.tmp 5) _ rfl 0 _ 0 _ _ ([.int .i64 x.index, .int .i64 x.term, .int .i64 x.kind, .int .i64 x.client, .int .i64 x.number, .string x.body, .int .i64 x.gen, .int .i64 x.step, .int .i64 x.ck, .int .i64 x.cm, .slice A1 n1 c1, .slice A2 n2 c2, .slice A3 n3 c3, .slice A4 n4 c4, .slice A5 n5 c5]) ([.int .i64 x.index, .int .i64 x.term, .int .i64 x.kind, .int .i64 x.client, .int .i64 x.number, .string x.body, .int .i64 x.gen, .int .i64 x.step, .int .i64 x.ck, .int .i64 x.cm, .slice A1 n1 c1, .slice A2 n2 c2, .slice A3 n3 c3, .slice A4 n4 c4, .slice A5 n5 c5]) rfl (.agg ([.int .i64 x.index, .int .i64 x.term, .int .i64 x.kind, .int .i64 x.client, .int .i64 x.number, .string x.body, .int .i64 x.gen, .int .i64 x.step, .int .i64 x.ck, .int .i64 x.cm, .slice A1 n1 c1, .slice A2 n2 c2, .slice A3 n3 c3, .slice A4 n4 c4, .slice A5 n5 c5] : List Value).toArray) rfl rfl (fits_agg _) (by simp) rfl size_entry rfl ?_; intro WA hO; replace HO := hide hO; clear hO; have k5 : ∀ q, WA.cell? ⟨b5, q, none⟩ = ([.int .i64 x.index, .int .i64 x.term, .int .i64 x.kind, .int .i64 x.client, .int .i64 x.number, .string x.body, .int .i64 x.gen, .int .i64 x.step, .int .i64 x.ck, .int .i64 x.cm, .slice A1 n1 c1, .slice A2 n2 c2, .slice A3 n3 c3, .slice A4 n4 c4, .slice A5 n5 c5] : List Value)[q]? := HO.out.cells 0 rfl)
    | ((with_reducible refine at_load 114 (.tmp 18) ?_); refine wpList_load_own HO.out rfl 114 (.tmp 18) rfl 0 _ 2 13 _ _ ([.int .i64 x.kind, .int .i64 x.client, .int .i64 x.number, .string x.body, .int .i64 x.gen, .int .i64 x.step, .int .i64 x.ck, .int .i64 x.cm, .slice A1 n1 c1, .slice A2 n2 c2, .slice A3 n3 c3, .slice A4 n4 c4, .slice A5 n5 c5]) _ rfl rfl rfl Try.underlying114 rfl size_cmd ?_)
    | ((with_reducible refine at_alloc 114 ?_); refine wpList_alloc_own HO.out rfl 114 rfl ([zi, zi, zi, zs, zi, zi, zi, zi, zl, zl, zl, zl, zl]) info_cmd ?_; intro WA b6 hO; replace HO := hide hO; clear hO)
    | ((with_reducible refine at_store 114 (.tmp 6) ?_); refine wpList_store_own HO.out rfl 114 (.tmp 6) _ rfl 1 _ 0 _ _ ([.int .i64 x.kind, .int .i64 x.client, .int .i64 x.number, .string x.body, .int .i64 x.gen, .int .i64 x.step, .int .i64 x.ck, .int .i64 x.cm, .slice A1 n1 c1, .slice A2 n2 c2, .slice A3 n3 c3, .slice A4 n4 c4, .slice A5 n5 c5]) ([.int .i64 x.kind, .int .i64 x.client, .int .i64 x.number, .string x.body, .int .i64 x.gen, .int .i64 x.step, .int .i64 x.ck, .int .i64 x.cm, .slice A1 n1 c1, .slice A2 n2 c2, .slice A3 n3 c3, .slice A4 n4 c4, .slice A5 n5 c5]) rfl (.agg ([.int .i64 x.kind, .int .i64 x.client, .int .i64 x.number, .string x.body, .int .i64 x.gen, .int .i64 x.step, .int .i64 x.ck, .int .i64 x.cm, .slice A1 n1 c1, .slice A2 n2 c2, .slice A3 n3 c3, .slice A4 n4 c4, .slice A5 n5 c5] : List Value).toArray) rfl rfl (fits_agg _) (by simp) rfl size_cmd rfl ?_; intro WA hO; replace HO := hide hO; clear hO; have k6 : ∀ q, WA.cell? ⟨b6, q, none⟩ = ([.int .i64 x.kind, .int .i64 x.client, .int .i64 x.number, .string x.body, .int .i64 x.gen, .int .i64 x.step, .int .i64 x.ck, .int .i64 x.cm, .slice A1 n1 c1, .slice A2 n2 c2, .slice A3 n3 c3, .slice A4 n4 c4, .slice A5 n5 c5] : List Value)[q]? := HO.out.cells 1 rfl; replace k5 : ∀ q, WA.cell? ⟨b5, q, none⟩ = ([.int .i64 x.index, .int .i64 x.term, .int .i64 x.kind, .int .i64 x.client, .int .i64 x.number, .string x.body, .int .i64 x.gen, .int .i64 x.step, .int .i64 x.ck, .int .i64 x.cm, .slice A1 n1 c1, .slice A2 n2 c2, .slice A3 n3 c3, .slice A4 n4 c4, .slice A5 n5 c5] : List Value)[q]? := HO.out.cells 0 rfl)
    | ((with_reducible refine at_sliceV 28 5 _ ?_); refine wpList_slice_ownV HO.out rfl 28 3 _ ([.int .i64 x.index, .int .i64 x.term, .int .i64 x.kind, .int .i64 x.client, .int .i64 x.number]) rfl (by simp [Act.eval]) Try.underlying28 (by kernel_rfl) (by kernel_rfl) (by simp [Value.cells]) (by simp) (by simp) ?_; intro WA g5 hO; replace HO := hide hO; clear hO))
   have HB6 := hide (HO.out.blk 1 rfl)
   have HBG := hide (HO.out.blk 2 rfl)
   have hbw := HO.out.below
   replace HW := hide (HW.out.step hbw)
   have HT0 := hide (HT.out.trans (Touch.below hbw _))
   clear HT;have HT := HT0;clear HT0
   have HBR : Hid (Below B wr _) := hide (hbw.mono (below_size HBL.out HBW.out))
   have HLEN := hide HOK.out.lens;clear hbw HO k5
   refine (ints_c p _ _ _ [x.index, x.term, x.kind, x.client, x.number] _ HW.out (li_row HBG.out (fun y hy => HOK.out.ints y (by simp only [List.mem_cons, List.not_mem_nil, or_false] at hy ⊢; omega)) (by simp)) (fun _ j hj => by injection hj with hj; subst hj; exact HW.out.apart HBG.out (by decide) (by decide)) (by have := HSZ.out; have h9 := HLEN.out; unfold En.size at this; simp only [List.length_append, List.length_cons, List.length_nil] at h9 this ⊢; omega)).mono ?_
   rintro e w3 ⟨rfl, kk3, hw2, ht2, hk2⟩
   replace HB6 := hide (HB6.out.touch ht2 (HW.out.apart HB6.out (by decide) (by decide)))
   replace HBR := hide (below_trans HBR.out (ht2.low HBP.out (Nat.le_trans HBW.out HT.out.size) (fun g hg => (HW.out.k_lt g hg).1)))
   have HT3 := hide (HT.out.kn HK.out ht2)
   replace HK := hide (HK.out.next HT.out.size hk2)
   clear HT;have HT := HT3;clear HT3
   replace HW := hide hw2
   clear hw2 ht2 hk2 k6
   have k6 : ∀ q, w3.cell? ⟨b6, q, none⟩ = ([.int .i64 x.kind, .int .i64 x.client, .int .i64 x.number, .string x.body, .int .i64 x.gen, .int .i64 x.step, .int .i64 x.ck, .int .i64 x.cm, .slice A1 n1 c1, .slice A2 n2 c2, .slice A3 n3 c3, .slice A4 n4 c4, .slice A5 n5 c5] : List Value)[q]? := fun q => (HB6.out.cell q).trans (by simp)
   go_wp2_with fail
   refine (text_c p _ _ x.body _ HW.out (by have := HSZ.out; have h9 := HLEN.out; unfold En.size at this; simp only [List.length_append, List.length_cons, List.length_nil] at h9 this ⊢; omega)).mono ?_
   rintro e w4 ⟨rfl, kk4, hw2, ht2, hk2⟩
   replace HB6 := hide (HB6.out.touch ht2 (HW.out.apart HB6.out (by decide) (by decide)))
   replace HBR := hide (below_trans HBR.out (ht2.low HBP.out (Nat.le_trans HBW.out HT.out.size) (fun g hg => (HW.out.k_lt g hg).1)))
   have HT4 := hide (HT.out.kn HK.out ht2)
   replace HK := hide (HK.out.next HT.out.size hk2)
   clear HT;have HT := HT4;clear HT4
   replace HW := hide hw2
   clear hw2 ht2 hk2 k6
   have k6 : ∀ q, w4.cell? ⟨b6, q, none⟩ = ([.int .i64 x.kind, .int .i64 x.client, .int .i64 x.number, .string x.body, .int .i64 x.gen, .int .i64 x.step, .int .i64 x.ck, .int .i64 x.cm, .slice A1 n1 c1, .slice A2 n2 c2, .slice A3 n3 c3, .slice A4 n4 c4, .slice A5 n5 c5] : List Value)[q]? := fun q => (HB6.out.cell q).trans (by simp)
   have HO := hide (Own.nil w4 [] (by simp))
   clear HBG
   go_wp2_with ((with_reducible refine at_sliceV 28 4 _ ?_); refine wpList_slice_ownV HO.out rfl 28 3 _ ([.int .i64 x.gen, .int .i64 x.step, .int .i64 x.ck, .int .i64 x.cm]) rfl (by simp [Act.eval]) Try.underlying28 (by kernel_rfl) (by kernel_rfl) (by simp [Value.cells]) (by simp) (by simp) ?_; intro WA g4 hO; replace HO := hide hO; clear hO)
   have HBG := hide (HO.out.blk 0 rfl)
   have hbw := HO.out.below
   replace HW := hide (HW.out.step hbw)
   replace HB6 := hide (HB6.out.step hbw)
   have HT0 := hide (HT.out.trans (Touch.below hbw _))
   replace HBR := hide (below_trans HBR.out (hbw.mono (Nat.le_trans HBW.out HT.out.size)))
   clear HT;have HT := HT0;clear HT0 hbw HO
   refine (ints_c p _ _ _ [x.gen, x.step, x.ck, x.cm] _ HW.out (li_row HBG.out (fun y hy => HOK.out.ints y (by simp only [List.mem_cons, List.not_mem_nil, or_false] at hy ⊢; omega)) (by simp)) (fun _ j hj => by injection hj with hj; subst hj; exact HW.out.apart HBG.out (by decide) (by decide)) (by have := HSZ.out; have h9 := HLEN.out; unfold En.size at this; simp only [List.length_append, List.length_cons, List.length_nil] at h9 this ⊢; omega)).mono ?_
   rintro e w5 ⟨rfl, kk5, hw2, ht2, hk2⟩
   replace HB6 := hide (HB6.out.touch ht2 (HW.out.apart HB6.out (by decide) (by decide)))
   replace HBR := hide (below_trans HBR.out (ht2.low HBP.out (Nat.le_trans HBW.out HT.out.size) (fun g hg => (HW.out.k_lt g hg).1)))
   have HT5 := hide (HT.out.kn HK.out ht2)
   replace HK := hide (HK.out.next HT.out.size hk2)
   clear HT;have HT := HT5;clear HT5
   replace HW := hide hw2
   clear hw2 ht2 hk2 k6
   have k6 : ∀ q, w5.cell? ⟨b6, q, none⟩ = ([.int .i64 x.kind, .int .i64 x.client, .int .i64 x.number, .string x.body, .int .i64 x.gen, .int .i64 x.step, .int .i64 x.ck, .int .i64 x.cm, .slice A1 n1 c1, .slice A2 n2 c2, .slice A3 n3 c3, .slice A4 n4 c4, .slice A5 n5 c5] : List Value)[q]? := fun q => (HB6.out.cell q).trans (by simp)
   clear HBG
   go_wp2_with fail
   refine (list_c p _ _ _ x.cf _ HW.out ((HF1.out.below HBR.out).li (Nat.le_trans HBW.out HT.out.size)) ((HF1.out.below HBR.out).apart HBP.out (fun g hg => (HW.out.k_lt g hg).1)) (by have := HSZ.out; have h9 := HLEN.out; unfold En.size at this; simp only [List.length_append, List.length_cons, List.length_nil] at h9 this ⊢; omega)).mono ?_
   rintro e w6 ⟨rfl, kk6, hw2, ht2, hk2⟩
   replace HB6 := hide (HB6.out.touch ht2 (HW.out.apart HB6.out (by decide) (by decide)))
   replace HBR := hide (below_trans HBR.out (ht2.low HBP.out (Nat.le_trans HBW.out HT.out.size) (fun g hg => (HW.out.k_lt g hg).1)))
   have HT6 := hide (HT.out.kn HK.out ht2)
   replace HK := hide (HK.out.next HT.out.size hk2)
   clear HT;have HT := HT6;clear HT6
   replace HW := hide hw2
   clear hw2 ht2 hk2 k6
   have k6 : ∀ q, w6.cell? ⟨b6, q, none⟩ = ([.int .i64 x.kind, .int .i64 x.client, .int .i64 x.number, .string x.body, .int .i64 x.gen, .int .i64 x.step, .int .i64 x.ck, .int .i64 x.cm, .slice A1 n1 c1, .slice A2 n2 c2, .slice A3 n3 c3, .slice A4 n4 c4, .slice A5 n5 c5] : List Value)[q]? := fun q => (HB6.out.cell q).trans (by simp)
   go_wp2_with fail
   refine (list_c p _ _ _ x.ct _ HW.out ((HF2.out.below HBR.out).li (Nat.le_trans HBW.out HT.out.size)) ((HF2.out.below HBR.out).apart HBP.out (fun g hg => (HW.out.k_lt g hg).1)) (by have := HSZ.out; have h9 := HLEN.out; unfold En.size at this; simp only [List.length_append, List.length_cons, List.length_nil] at h9 this ⊢; omega)).mono ?_
   rintro e w7 ⟨rfl, kk7, hw2, ht2, hk2⟩
   replace HB6 := hide (HB6.out.touch ht2 (HW.out.apart HB6.out (by decide) (by decide)))
   replace HBR := hide (below_trans HBR.out (ht2.low HBP.out (Nat.le_trans HBW.out HT.out.size) (fun g hg => (HW.out.k_lt g hg).1)))
   have HT7 := hide (HT.out.kn HK.out ht2)
   replace HK := hide (HK.out.next HT.out.size hk2)
   clear HT;have HT := HT7;clear HT7
   replace HW := hide hw2
   clear hw2 ht2 hk2 k6
   have k6 : ∀ q, w7.cell? ⟨b6, q, none⟩ = ([.int .i64 x.kind, .int .i64 x.client, .int .i64 x.number, .string x.body, .int .i64 x.gen, .int .i64 x.step, .int .i64 x.ck, .int .i64 x.cm, .slice A1 n1 c1, .slice A2 n2 c2, .slice A3 n3 c3, .slice A4 n4 c4, .slice A5 n5 c5] : List Value)[q]? := fun q => (HB6.out.cell q).trans (by simp)
   have HRG : Hid (w7.rangeAt b6 10 ([.slice A3 n3 c3, .slice A4 n4 c4, .slice A5 n5 c5] : List Value)) := hide (fun q v hq => by
    rw [k6]
    match q, hq with
    | 0, hq => simpa using hq
    | 1, hq => simpa using hq
    | 2, hq => simpa using hq
    | q + 3, hq => simp at hq)
   go_wp2_with ((with_reducible refine at_load 34 (.tmp 61) ?_); refine wpList_load_mid rfl 34 (.tmp 61) rfl b6 10 rfl ([.slice A3 n3 c3, .slice A4 n4 c4, .slice A5 n5 c5]) _ HRG.out Try.underlying34 rfl size_cfg ?_)
   clear HRG
   refine (config_c p _ _ _ _ _ x.co x.cn x.cl _ HW.out ⟨((HF3.out.below HBR.out).li (Nat.le_trans HBW.out HT.out.size)), ((HF4.out.below HBR.out).li (Nat.le_trans HBW.out HT.out.size)), ((HF5.out.below HBR.out).li (Nat.le_trans HBW.out HT.out.size))⟩ ((HF3.out.below HBR.out).apart HBP.out (fun g hg => (HW.out.k_lt g hg).1)) ((HF4.out.below HBR.out).apart HBP.out (fun g hg => (HW.out.k_lt g hg).1)) ((HF5.out.below HBR.out).apart HBP.out (fun g hg => (HW.out.k_lt g hg).1)) (by have := HSZ.out; have h9 := HLEN.out; unfold En.size at this; simp only [List.length_append, List.length_cons, List.length_nil] at h9 this ⊢; omega)).mono ?_
   rintro e w8 ⟨rfl, kk8, hw2, ht2, hk2⟩
   replace HB6 := hide (HB6.out.touch ht2 (HW.out.apart HB6.out (by decide) (by decide)))
   replace HBR := hide (below_trans HBR.out (ht2.low HBP.out (Nat.le_trans HBW.out HT.out.size) (fun g hg => (HW.out.k_lt g hg).1)))
   have HT8 := hide (HT.out.kn HK.out ht2)
   replace HK := hide (HK.out.next HT.out.size hk2)
   clear HT;have HT := HT8;clear HT8
   replace HW := hide hw2
   clear hw2 ht2 hk2 k6
   have k6 : ∀ q, w8.cell? ⟨b6, q, none⟩ = ([.int .i64 x.kind, .int .i64 x.client, .int .i64 x.number, .string x.body, .int .i64 x.gen, .int .i64 x.step, .int .i64 x.ck, .int .i64 x.cm, .slice A1 n1 c1, .slice A2 n2 c2, .slice A3 n3 c3, .slice A4 n4 c4, .slice A5 n5 c5] : List Value)[q]? := fun q => (HB6.out.cell q).trans (by simp)
   go_wp2_with fail
   go_roundw
   case rel =>
    refine ⟨j + 1, kk8, by go_num, HJ.out, ?_, HT.out, HK.out, below_trans HBL.out HBR.out⟩
    have := HW.out
    rw [HFL.out, show encE x = ([x.index, x.term, x.kind, x.client, x.number].flatMap encI) ++ (encT x.body ++ (([x.gen, x.step, x.ck, x.cm].flatMap encI) ++ (encQ x.cf ++ (encQ x.ct ++ encC x.co x.cn x.cl)))) from rfl]
    simpa only [List.append_assoc] using this
   case measure => have := HJ.out; simp [intOf]; omega
  ·obtain rfl : j = n := by omega
   have HW : Hid (Wt wr p k' (m ++ (encI l.length ++ l.flatMap encE))) := hide (by
    rw [hn.out, List.take_length] at hw
    simpa using hw)
   have HT := hide ht;have HK := hide hk;clear hw ht hk hbl hlt hj
   go_wp2_with fail
   go_end0
   exact ⟨rfl, k', HW.out, HT.out, HK.out⟩
end
end Go.Proofs.Ytpbgelhjbfckcaa
