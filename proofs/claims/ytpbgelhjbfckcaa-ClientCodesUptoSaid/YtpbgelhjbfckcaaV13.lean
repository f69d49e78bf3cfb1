/- Reading numbers into the places that pointers name. -/
import Derived.Test.YtpbgelhjbfckcaaV12
namespace Go.Proofs.Ytpbgelhjbfckcaa
set_option linter.unusedVariables false
set_option linter.unusedSimpArgs false
section
open Go.ChangeShapes Go.WideShapes Go.ChangeAt Go.RowKit
theorem Ptrs.touch {S : List Nat} {w w' : World} {v : Value} {g : Nat} {offs : List Nat} (h : Ptrs w v g offs) (k : Touch S w w') (hv : ∀ q, v.ownBlock = some q → q ∉ S) : Ptrs w' v g offs := by
 obtain ⟨A, c, rfl, h1, h2, h3⟩ := h
 refine ⟨A, c, rfl, h1, h2, fun h0 => ?_⟩
 obtain ⟨p, o, rfl, hc⟩ := h3 h0
 refine ⟨p, o, rfl, fun i hi => ?_⟩
 have h5 := hc i hi
 have h6 : p < w.heap.size := block_lt_of_cell h5
 rw [World.cell?_of_block (k.block p h6 (hv p rfl))]
 exact h5
/-- Numbers set at places of a row. -/
def setI (cs : List Value) (ps : List (Nat × Int)) : List Value := ps.foldl (fun cs p => cs.set p.1 (.int .i64 p.2)) cs
theorem setI_snoc (cs : List Value) (ps : List (Nat × Int)) (p : Nat × Int) : setI cs (ps ++ [p]) = (setI cs ps).set p.1 (.int .i64 p.2) := by unfold setI; rw [List.foldl_append]; rfl
theorem setI_len (cs : List Value) (ps : List (Nat × Int)) : (setI cs ps).length = cs.length := by
 unfold setI
 induction ps generalizing cs with
 | nil => rfl
 | cons p r ih => rw [List.foldl_cons, ih, List.length_set]
theorem zip_snoc (ns : List Nat) (xs : List Int) (z : Int) (j : Nat) (hj : j < ns.length) (hx : xs.length = j) : (ns.take (j + 1)).zip (xs ++ [z]) = (ns.take j).zip xs ++ [(ns[j], z)] := by
 rw [List.take_add_one, List.getElem?_eq_getElem hj, List.zip_append (by rw [List.length_take]; omega)]
 rfl
set_option maxRecDepth 100000 in
set_option maxHeartbeats 4000000 in
theorem rints_c (b : Nat) (k : Option Nat) (l : List UInt8) (c : Int) (g : Nat) (t : TypeId) (cs : List Value) (ns : List Nat) (lv : Value) (w : World) (h : Rd w b k l c) (hp : Ptrs w lv g ns) (hB : Blk w g t cs.toArray) (hv : ∀ q, lv.ownBlock = some q → q ≠ g ∧ q ≠ b) (hgb : g ≠ b) (hkg : k ≠ some g)
 (hl : l.length ≤ 1000000000) (ho : ∀ o ∈ ns, o < cs.length) :
 Calls Try.prog 98 #[.agg #[at0 b], lv] w fun e w' => e = .returned (.tuple #[]) ∧ Rd w' b k (rList ns.length (l, c)).1.1 (rList ns.length (l, c)).1.2 ∧ Blk w' g t (setI cs (ns.zip (rList ns.length (l, c)).2)).toArray ∧ Touch [g, b] w w' := by
 obtain ⟨A, n, cp, rfl, hn, hnc, hcm⟩ := hp.form
 have HBL : Hid (b < w.heap.size ∧ g < w.heap.size) := hide ⟨h.lt, hB.lt⟩
 have HO := hide (Own.nil w [] (by simp))
 have H := hide h;have HL := hide hl;have HP := hide hp;have HB := hide hB;have HV := hide hv;have HGB := hide hgb;have HKG := hide hkg;have HOF := hide ho;clear h hl hp hB hv hgb hkg ho
 go_enter Try.func98, Try.ntmps98
 go_wp2_with ((with_reducible refine at_box 157 (.tmp 0) ?_); refine wpList_box_own HO.out rfl 157 (.tmp 0) rfl [at0 b] rfl ?_; intro WA q hO; replace HO := hide hO; clear hO)
 have HR1 := hide (H.out.step HO.out.below)
 have HB1 := hide (HB.out.step HO.out.below)
 replace HO := hide (HO.out.plus [g, b] (by intro s hs; simp only [List.mem_cons, List.not_mem_nil, or_false] at hs; rcases hs with rfl | rfl; exact HBL.out.2; exact HBL.out.1))
 go_loopw [8] (fun v8 wr => ∃ j : Nat, v8 = .int .i64 j ∧ j ≤ n ∧ Rd wr b k (rList j (l, c)).1.1 (rList j (l, c)).1.2 ∧ Blk wr g t (setI cs ((ns.take j).zip (rList j (l, c)).2)).toArray ∧ Own w [g, b] ([] ++ [(q, 157, [at0 b])]) wr) (fun v8 _ => n - (intOf v8).toNat)
 case atStart => exact ⟨0, rfl, Nat.zero_le _, HR1.out, HB1.out, HO.out⟩
 case round =>
  obtain ⟨j, rfl, hj, hr, hb, hown⟩ := hrel
  clear HR1 HB1 HO;have HR := hide hr;have HBB := hide hb;have HO := hide hown;have HJ := hide hj;clear hr hb hown
  by_cases hlt : j < n
  ·have hjl : j < ns.length := by rw [← hn.out]; exact hlt
   obtain ⟨p, o, rfl, hcp⟩ := (HP.out.touch HO.out.touch (fun y hy => by have := HV.out y hy; simp; exact this)).at_ j hjl
   have hok : ns[j] < cs.length := HOF.out _ (List.getElem_mem hjl)
   have HZ := hide (fun z => zip_snoc ns (rList j (l, c)).2 z j hjl (rList_size _ _))
   have HOK : Hid (ns[j] < (setI cs ((ns.take j).zip (rList j (l, c)).2)).length) := hide (by rw [setI_len]; exact hok)
   generalize ns[j] = ok at *
   have HLT := hide hlt
   have hji : (j : Int) < (n : Int) := by omega
   have k0 : wr.cell? ⟨q, 0, none⟩ = some (at0 b) := HO.out.cells 0 rfl 0
   clear hlt hj hjl hok
   go_wp2_with fail
   refine (rdInt_c b k (rList j (l, c)).1.1 (rList j (l, c)).1.2 _ HR.out (by have := rList_len j (l, c); have := HL.out; simp only at *; omega)).mono ?_
   rintro e w3 ⟨rfl, hr3, ht3⟩
   have HR3 : Hid (Rd w3 b k (rList (j + 1) (l, c)).1.1 (rList (j + 1) (l, c)).1.2) := hide hr3
   have HO3 := hide (HO.out.call ht3 (by simp))
   have HB3 := hide (HBB.out.touch ht3 (by simpa using HGB.out))
   have HSN : Hid ((rList (j + 1) (l, c)).2 = (rList j (l, c)).2 ++ [(rInt ((rList j (l, c)).1.1, (rList j (l, c)).1.2)).2]) := hide rfl
   generalize (rInt ((rList j (l, c)).1.1, (rList j (l, c)).1.2)).2 = z at *
   obtain ⟨u, hu⟩ : ∃ u, (setI cs ((ns.take j).zip (rList j (l, c)).2))[ok]? = some u := ⟨_, List.getElem?_eq_getElem HOK.out⟩
   have c3 : w3.cell? ⟨g, ok, none⟩ = some u := (HB3.out.cell ok).trans (by simpa using hu)
   have f3 := HB3.out.froz ok;clear hr3 ht3 k0 hcp hu
   go_wp2_with fail
   have HTS : Hid (Touch [g] w3 (w3.setCell ⟨g, ok, none⟩ (.int .i64 z))) := hide ((Touch.refl [g] w3).set (.inl (by simp)) ok _)
   go_roundw
   case rel =>
    refine ⟨j + 1, by go_num, HLT.out, HR3.out.touch HTS.out (by simpa using Ne.symm HGB.out) (fun y hy hm => HKG.out (by rw [hy]; simpa using hm)), ?_, HO3.out.call HTS.out (by simp)⟩
    rw [HSN.out, HZ.out, setI_snoc]
    have := HB3.out.put ok (.int .i64 z)
    rwa [List.setIfInBounds_toArray] at this
   case measure => have := HLT.out; simp [intOf]; omega
  ·obtain rfl : j = n := by omega
   have HT := hide HO.out.touch;clear hlt hj
   go_wp2_with fail
   go_end0
   have e := hn.out
   subst e
   exact ⟨rfl, HR.out, by have := HBB.out; rwa [List.take_length] at this, HT.out⟩
end
section
open Go.ChangeShapes Go.WideShapes Go.ChangeAt Go.RowKit
/-- Values set at places of a row. -/
def setV (cs : List Value) (ps : List (Nat × Value)) : List Value := ps.foldl (fun cs p => cs.set p.1 p.2) cs
theorem setV_snoc (cs : List Value) (ps : List (Nat × Value)) (p : Nat × Value) : setV cs (ps ++ [p]) = (setV cs ps).set p.1 p.2 := by unfold setV; rw [List.foldl_append]; rfl
theorem setV_len (cs : List Value) (ps : List (Nat × Value)) : (setV cs ps).length = cs.length := by
 unfold setV
 induction ps generalizing cs with
 | nil => rfl
 | cons p r ih => rw [List.foldl_cons, ih, List.length_set]
theorem zipV_snoc (ns : List Nat) (xs : List Value) (z : Value) (j : Nat) (hj : j < ns.length) (hx : xs.length = j) : (ns.take (j + 1)).zip (xs ++ [z]) = (ns.take j).zip xs ++ [(ns[j], z)] := by
 rw [List.take_add_one, List.getElem?_eq_getElem hj, List.zip_append (by rw [List.length_take]; omega)]
 rfl
/-- n lists, one after the other. -/
def rLists : Nat → RS → RS × List (List Int)
 | 0, r => (r, [])
 | n + 1, r => ((rInts (rLists n r).1).1, (rLists n r).2 ++ [(rInts (rLists n r).1).2])
theorem rInts_len (r : RS) : (rInts r).1.1.length ≤ r.1.length := Nat.le_trans (rList_len _ _) (rCount_len _ _ _)
theorem rInts_i64 (r : RS) : ∀ x ∈ (rInts r).2, I64 x := rList_i64 _ _
theorem rLists_len (n : Nat) (r : RS) : (rLists n r).1.1.length ≤ r.1.length := by
 induction n with
 | zero => exact Nat.le_refl _
 | succ n ih => exact Nat.le_trans (rInts_len _) ih
theorem rLists_size (n : Nat) (r : RS) : (rLists n r).2.length = n := by
 induction n with
 | zero => rfl
 | succ n ih => show ((rLists n r).2 ++ [_]).length = _; rw [List.length_append, ih]; rfl
theorem LiAB.formN {w : World} {A0 B : Nat} {v : Value} {l : List Int} (h : LiAB w A0 B v l) : ∃ A n c, v = .slice A n c := by obtain ⟨A, c, e, _⟩ := h; exact ⟨_, _, _, e⟩
theorem LiAB.lower {w : World} {A0 A1 B : Nat} {v : Value} {l : List Int} (h : LiAB w A0 B v l) (hA : A1 ≤ A0) : LiAB w A1 B v l := by
 obtain ⟨A, c, e, h1, h2, h3, h4⟩ := h
 exact ⟨A, c, e, h1, h2, h3, fun h0 => by obtain ⟨g, o, e1, ha, hg, ht, hc⟩ := h4 h0; exact ⟨g, o, e1, by omega, hg, ht, hc⟩⟩
/-- The values are the lists. -/
def VsAt (w : World) (A0 : Nat) (vs : List Value) (lss : List (List Int)) : Prop := vs.length = lss.length ∧ ∀ i (h : i < vs.length) (h2 : i < lss.length), LiAB w A0 w.heap.size vs[i] lss[i]
theorem VsAt.nil (w : World) (A0 : Nat) : VsAt w A0 [] [] := ⟨rfl, fun i h => by cases h⟩
theorem VsAt.touch {w w' : World} {A0 : Nat} {vs : List Value} {lss : List (List Int)} {S : List Nat} (h : VsAt w A0 vs lss) (k : Touch S w w') (hS : ∀ s ∈ S, s < A0) : VsAt w' A0 vs lss :=
 ⟨h.1, fun i h1 h2 => (h.2 i h1 h2).touch k (Nat.le_refl _) hS⟩
theorem VsAt.snoc {w : World} {A0 : Nat} {vs : List Value} {lss : List (List Int)} {v : Value} {l : List Int} (h : VsAt w A0 vs lss) (hv : LiAB w A0 w.heap.size v l) : VsAt w A0 (vs ++ [v]) (lss ++ [l]) := by
 refine ⟨by simp [h.1], fun i h1 h2 => ?_⟩
 by_cases hi : i < vs.length
 ·rw [List.getElem_append_left hi, List.getElem_append_left (by rw [← h.1]; exact hi)]
  exact h.2 i hi _
 ·rw [List.length_append] at h1
  simp only [List.length_cons, List.length_nil] at h1
  have e : i = vs.length := by omega
  subst e
  have e2 := h.1
  simp only [List.getElem_append_right (Nat.le_refl _), Nat.sub_self, List.getElem_cons_zero]
  have : (lss ++ [l])[vs.length] = l := by simp [e2]
  rw [this]
  exact hv
set_option maxRecDepth 100000 in
set_option maxHeartbeats 8000000 in
theorem pread_c (rb : Nat) (k : Option Nat) (lb : List UInt8) (c : Int) (b : Nat) (t : TypeId) (cs : List Value) (ns ls : List Nat) (bn bl : Nat) (vn vl : Value) (A0 : Nat) (w : World) (h : Rd w rb k lb c)
 (h1 : w.cell? ⟨bn, 0, none⟩ = some vn) (h2 : w.cell? ⟨bl, 0, none⟩ = some vl) (hn : Ptrs w vn b ns) (hl : Ptrs w vl b ls) (hvn : ∀ q, vn.ownBlock = some q → q ≠ b ∧ q ≠ rb) (hvl : ∀ q, vl.ownBlock = some q → q ≠ b ∧ q ≠ rb) (hbl : bl ≠ b ∧ bl ≠ rb)
 (hB : Blk w b t cs.toArray) (hgb : b ≠ rb) (hkg : k ≠ some b) (hk : ∀ j, k = some j → j < w.heap.size) (hlb : lb.length ≤ 1000000000) (hns : ∀ o ∈ ns, o < cs.length) (hls : ∀ o ∈ ls, o < cs.length) (hA : b < A0 ∧ rb < A0 ∧ A0 ≤ w.heap.size) :
 Calls Try.prog 84 #[at0 rb, at0 bn, at0 bl] w fun e w' => e = .returned (.tuple #[]) ∧ ∃ vs, VsAt w' A0 vs (rLists ls.length (rList ns.length (lb, c)).1).2 ∧ Rd w' rb k (rLists ls.length (rList ns.length (lb, c)).1).1.1 (rLists ls.length (rList ns.length (lb, c)).1).1.2 ∧
  Blk w' b t (setV (setI cs (ns.zip (rList ns.length (lb, c)).2)) (ls.zip vs)).toArray ∧ Touch [b, rb] w w' := by
 obtain ⟨A, n, cp, rfl, hnn, hnc, hcm⟩ := hn.form
 obtain ⟨D, m, d, rfl, hmm, hmd, hdm⟩ := hl.form
 have H := hide h;have HP := hide hn;have HPL := hide hl;have HVN := hide hvn;have HVL := hide hvl;have HBL := hide hbl;have HC2 := hide h2;have HB := hide hB;have HGB := hide hgb;have HKG := hide hkg;have HK := hide hk;have HLB := hide hlb;have HNS := hide hns;have HLS := hide hls;have HA := hide hA
 have HT0 : Hid (Touch [b, rb] w w) := hide (Touch.refl _ _)
 clear h h2 hn hl hvn hvl hbl hB hgb hkg hk hlb hns hls hA
 go_enter Try.func84, Try.ntmps84
 go_wp2_with fail
 go_loopw [10] (fun v10 wr => ∃ j : Nat, v10 = .int .i64 j ∧ j ≤ n ∧ Rd wr rb k (rList j (lb, c)).1.1 (rList j (lb, c)).1.2 ∧ Blk wr b t (setI cs ((ns.take j).zip (rList j (lb, c)).2)).toArray ∧ Touch [b, rb] w wr) (fun v10 _ => n - (intOf v10).toNat)
 case atStart => exact ⟨0, rfl, Nat.zero_le _, H.out, HB.out, HT0.out⟩
 case round =>
  obtain ⟨j, rfl, hj, hr, hb, ht⟩ := hrel
  have HR := hide hr;have HBB := hide hb;have HT := hide ht;have HJ := hide hj;clear hr hb ht h1 HT0
  by_cases hlt : j < n
  ·have hjl : j < ns.length := by rw [← hnn.out]; exact hlt
   obtain ⟨p, o, rfl, hcp⟩ := (HP.out.touch HT.out (fun y hy => by have := HVN.out y hy; simp; exact this)).at_ j hjl
   have hok : ns[j] < cs.length := HNS.out _ (List.getElem_mem hjl)
   have HZ := hide (fun z => zip_snoc ns (rList j (lb, c)).2 z j hjl (rList_size _ _))
   have HOK : Hid (ns[j] < (setI cs ((ns.take j).zip (rList j (lb, c)).2)).length) := hide (by rw [setI_len]; exact hok)
   generalize ns[j] = ok at *
   have HLT := hide hlt
   have hji : (j : Int) < (n : Int) := by omega
   clear hlt hj hjl hok
   go_wp2_with fail
   refine (rdInt_c rb k (rList j (lb, c)).1.1 (rList j (lb, c)).1.2 _ HR.out (by have := rList_len j (lb, c); have := HLB.out; simp only at *; omega)).mono ?_
   rintro e w3 ⟨rfl, hr3, ht3⟩
   have HR3 : Hid (Rd w3 rb k (rList (j + 1) (lb, c)).1.1 (rList (j + 1) (lb, c)).1.2) := hide hr3
   have HT3 := hide (HT.out.next ht3 (fun s hs => .inl (List.mem_cons_of_mem _ hs)))
   have HB3 := hide (HBB.out.touch ht3 (by simpa using HGB.out))
   have HSN : Hid ((rList (j + 1) (lb, c)).2 = (rList j (lb, c)).2 ++ [(rInt ((rList j (lb, c)).1.1, (rList j (lb, c)).1.2)).2]) := hide rfl
   generalize (rInt ((rList j (lb, c)).1.1, (rList j (lb, c)).1.2)).2 = z at *
   obtain ⟨u, hu⟩ : ∃ u, (setI cs ((ns.take j).zip (rList j (lb, c)).2))[ok]? = some u := ⟨_, List.getElem?_eq_getElem HOK.out⟩
   have c3x : w3.cell? ⟨b, ok, none⟩ = some u := (HB3.out.cell ok).trans (by simpa using hu)
   have f3 := HB3.out.froz ok;clear hr3 ht3 hcp hu
   go_wp2_with fail
   have HTS : Hid (Touch [b] w3 (w3.setCell ⟨b, ok, none⟩ (.int .i64 z))) := hide ((Touch.refl [b] w3).set (.inl (by simp)) ok _)
   go_roundw
   case rel =>
    refine ⟨j + 1, by go_num, HLT.out, HR3.out.touch HTS.out (by simpa using Ne.symm HGB.out) (fun y hy hm => HKG.out (by rw [hy]; simpa using hm)), ?_, HT3.out.next HTS.out (fun s hs => .inl (by simp only [List.mem_singleton] at hs; simp [hs]))⟩
    rw [HSN.out, HZ.out, setI_snoc]
    have := HB3.out.put ok (.int .i64 z)
    rwa [List.setIfInBounds_toArray] at this
   case measure => have := HLT.out; simp [intOf]; omega
  ·obtain rfl : j = n := by omega
   have k2 : wr.cell? ⟨bl, 0, none⟩ = some (.slice D m d) := by
    rw [World.cell?_of_block (HT.out.block bl (block_lt_of_cell HC2.out) (by simpa using HBL.out))]
    exact HC2.out
   have HRN : Hid (Rd wr rb k (rList ns.length (lb, c)).1.1 (rList ns.length (lb, c)).1.2) := hide (by rw [← hnn.out]; exact HR.out)
   have HBN : Hid (Blk wr b t (setI cs (ns.zip (rList ns.length (lb, c)).2)).toArray) := hide (by have := HBB.out; rw [hnn.out, List.take_length] at this; exact this)
   have HRL : Hid ((rList ns.length (lb, c)).1.1.length ≤ 1000000000) := hide (Nat.le_trans (rList_len _ _) HLB.out)
   have HCL : Hid ((setI cs (ns.zip (rList ns.length (lb, c)).2)).length = cs.length) := hide (setI_len _ _)
   clear hlt hj HR HBB
   generalize hcs1 : setI cs (ns.zip (rList ns.length (lb, c)).2) = cs1 at *
   generalize hr1 : (rList ns.length (lb, c)).1 = r1 at *
   have HCE := hide hcs1;have HRE := hide hr1;clear hcs1 hr1
   go_wp2_with fail
   go_loopw [21] (fun v21 wr => ∃ (i : Nat) (vs : List Value), v21 = .int .i64 i ∧ i ≤ m ∧ VsAt wr A0 vs (rLists i r1).2 ∧ Rd wr rb k (rLists i r1).1.1 (rLists i r1).1.2 ∧ Blk wr b t (setV cs1 ((ls.take i).zip vs)).toArray ∧ Touch [b, rb] w wr) (fun v21 _ => m - (intOf v21).toNat)
   case atStart => exact ⟨0, [], rfl, Nat.zero_le _, VsAt.nil _ _, HRN.out, HBN.out, HT.out⟩
   case round =>
    obtain ⟨i, vs, rfl, hi, hvs, hr, hb, ht⟩ := hrel
    have HVS := hide hvs;have HR := hide hr;have HBB := hide hb;clear hvs hr hb HT HRN HBN k2;have HT := hide ht;have HI := hide hi;clear ht
    by_cases hlt : i < m
    ·have hil : i < ls.length := by rw [← hmm.out]; exact hlt
     obtain ⟨p, o, rfl, hcp⟩ := (HPL.out.touch HT.out (fun y hy => by have := HVL.out y hy; simp; exact this)).at_ i hil
     have hok : ls[i] < cs1.length := by rw [HCL.out]; exact HLS.out _ (List.getElem_mem hil)
     have HZ := hide (fun z => zipV_snoc ls vs z i hil (by rw [HVS.out.1, rLists_size]))
     have HOK : Hid (ls[i] < (setV cs1 ((ls.take i).zip vs)).length) := hide (by rw [setV_len]; exact hok)
     generalize ls[i] = ok at *
     have HLT := hide hlt
     have hji : (i : Int) < (m : Int) := by omega
     clear hlt hi hil hok
     go_wp2_with fail
     refine (readInts_c rb k (rLists i r1).1.1 (rLists i r1).1.2 _ HR.out (Nat.le_trans (rLists_len i r1) HRL.out) (fun y hy => Nat.lt_of_lt_of_le (HK.out y hy) HT.out.size)).mono ?_
     rintro e w3 ⟨v3, rfl, ho3, hr3, ht3⟩
     have hli := (ho3.li (rInts_i64 _)).lower (Nat.le_trans HA.out.2.2 HT.out.size)
     obtain ⟨A3, n3, c3, rfl⟩ := hli.formN
     have HR3 : Hid (Rd w3 rb k (rLists (i + 1) r1).1.1 (rLists (i + 1) r1).1.2) := hide hr3
     have HT3 := hide (HT.out.next ht3 (fun s hs => .inl (List.mem_cons_of_mem _ hs)))
     have HB3 := hide (HBB.out.touch ht3 (by simpa using HGB.out))
     have HV3 : Hid (VsAt w3 A0 (vs ++ [.slice A3 n3 c3]) (rLists (i + 1) r1).2) := hide ((HVS.out.touch ht3 (fun s hs => by simp only [List.mem_singleton] at hs; rw [hs]; exact HA.out.2.1)).snoc hli)
     obtain ⟨u, hu⟩ : ∃ u, (setV cs1 ((ls.take i).zip vs))[ok]? = some u := ⟨_, List.getElem?_eq_getElem HOK.out⟩
     have c3x : w3.cell? ⟨b, ok, none⟩ = some u := (HB3.out.cell ok).trans (by simpa using hu)
     have f3 := HB3.out.froz ok;clear ho3 hli hr3 ht3 hcp hu
     go_wp2_with fail
     have HTS : Hid (Touch [b] w3 (w3.setCell ⟨b, ok, none⟩ (.slice A3 n3 c3))) := hide ((Touch.refl [b] w3).set (.inl (by simp)) ok _)
     go_roundw
     case rel =>
      refine ⟨i + 1, vs ++ [.slice A3 n3 c3], by go_num, HLT.out, HV3.out.touch HTS.out (fun s hs => by simp only [List.mem_singleton] at hs; rw [hs]; exact HA.out.1), HR3.out.touch HTS.out (by simpa using Ne.symm HGB.out) (fun y hy hm => HKG.out (by rw [hy]; simpa using hm)), ?_, HT3.out.next HTS.out (fun s hs => .inl (by simp only [List.mem_singleton] at hs; simp [hs]))⟩
      rw [HZ.out, setV_snoc]
      have := HB3.out.put ok (.slice A3 n3 c3)
      rwa [List.setIfInBounds_toArray] at this
     case measure => have := HLT.out; simp [intOf]; omega
    ·obtain rfl : i = m := by omega
     have e := hmm.out;clear hlt hi
     go_wp2_with fail
     go_end0
     subst e
     rw [HCE.out, HRE.out]
     exact ⟨rfl, vs, HVS.out, HR.out, by have := HBB.out; rwa [List.take_length] at this, HT.out⟩
end
section
open List renaming getElem_toArray → qa, getElem_cons_zero → qb, getElem_cons_succ → qc, setIfInBounds_toArray → qd, set_cons_zero → qe, set_cons_succ → qf
open Go.ChangeShapes Go.WideShapes Go.ChangeAt Go.RowKit
set_option maxRecDepth 100000 in
set_option maxHeartbeats 4000000 in
theorem nread_c (rb : Nat) (k : Option Nat) (l : List UInt8) (c : Int) (b bp : Nat) (o : Nat) (t : TypeId) (cs : List Value) (w : World) (h : Rd w rb k l c) (h1 : w.cell? ⟨bp, 0, none⟩ = some (.pointer (some ⟨b, o, none⟩))) (hbp : bp ≠ rb) (hbb : bp ≠ b) (hB : Blk w b t cs.toArray) (hgb : b ≠ rb) (hkg : k ≠ some b)
 (hk : ∀ y, k = some y → y < w.heap.size) (hl : l.length ≤ 1000000000) (ho : o < cs.length) :
 Calls Try.prog 89 #[at0 rb, at0 bp] w fun e w' => e = .returned (.tuple #[]) ∧ Rd w' rb k (rInt (l, c)).1.1 (rInt (l, c)).1.2 ∧ Blk w' b t (cs.set o (.int .i64 (rInt (l, c)).2)).toArray ∧ Touch [b, rb] w w' := by
 have H := hide h;have HB := hide hB;have HBP := hide hbp;have HBB := hide hbb;have HGB := hide hgb;have HKG := hide hkg;have HK := hide hk;have HL := hide hl;have HOF := hide ho;clear h hB hbp hbb hgb hkg hk hl ho
 go_enter Try.func89, Try.ntmps89
 go_wp2_with fail
 refine wp_region_held_drew (S := fun W => W.cell? ⟨bp, 0, none⟩ = some (.pointer (some ⟨b, o, none⟩))) (by kernel_rfl) (h1) (fun hS0 => ?_)
 replace H : Hid (Rd w.drew rb k l c) := hide H.out
 replace HB : Hid (Blk w.drew b _ cs.toArray) := hide HB.out
 replace HK : Hid (∀ y, k = some y → y < w.drew.heap.size) := hide HK.out
 refine tk 0 ?_;refine tk 1 ?_
 refine tr1 2 fun K hK => ?_
 go_simp
 refine (rdInt_c rb k l c _ H.out (by have := HL.out; omega)).mono ?_
 rintro e w2 ⟨rfl, hr2, ht2⟩
 have HR2 := hide hr2;have HT2 := hide ht2
 have HB2 := hide (HB.out.touch ht2 (by simpa using HGB.out))
 obtain ⟨u, hu⟩ : ∃ u, cs[o]? = some u := ⟨_, List.getElem?_eq_getElem HOF.out⟩
 have c3 : w2.cell? ⟨b, o, none⟩ = some u := (HB2.out.cell o).trans (by simpa using hu)
 have f3 := HB2.out.froz o
 have k2 : w2.cell? ⟨bp, 0, none⟩ = some (.pointer (some ⟨b, o, none⟩)) := by rw [World.cell?_of_block (ht2.block bp (block_lt_of_cell h1) (by simpa using HBP.out))]; exact h1
 generalize hz : (rInt (l, c)).2 = z at *
 have HZ := hide hz;clear hz hr2 ht2 hu
 refine hK.out _ _ (k2) (fun hS2 => ?_)
 clear hK K
 try simp only [Act.put, qa, qb, qc, qd, qe, qf]
 refine tk 3 ?_
 refine tr1 4 fun K hK => ?_
 go_simp
 have HTS : Hid (Touch [b] w2 (w2.setCell ⟨b, o, none⟩ (.int .i64 z))) := hide ((Touch.refl [b] w2).set (.inl (by simp)) o _)
 have k3 : (w2.setCell ⟨b, o, none⟩ (.int .i64 z)).cell? ⟨bp, 0, none⟩ = some (.pointer (some ⟨b, o, none⟩)) := by rw [World.cell?_of_block (HTS.out.block bp (block_lt_of_cell k2) (by simpa using HBB.out))]; exact k2
 refine hK.out _ _ (k3) (fun hS4 => ?_)
 clear hK K
 try simp only [Act.put, qa, qb, qc, qd, qe, qf]
 refine wpAnyH_done (by kernel_rfl) ?_ _
 clear hS0
 go_end0
 rw [HZ.out]
 refine ⟨rfl, HR2.out.touch HTS.out (by simpa using Ne.symm HGB.out) (fun y hy hm => HKG.out (by rw [hy]; simpa using hm)), ?_, ((Touch.refl [b, rb] w).drew.next HT2.out (fun s hs => .inl (List.mem_cons_of_mem _ hs))).next HTS.out (fun s hs => .inl (by simp only [List.mem_singleton] at hs; simp [hs]))⟩
 have := HB2.out.put o (.int .i64 z)
 rwa [List.setIfInBounds_toArray] at this
set_option maxRecDepth 100000 in
set_option maxHeartbeats 4000000 in
theorem bread_c (rb : Nat) (k : Option Nat) (l : List UInt8) (c : Int) (b bp : Nat)  (cs : List Value) (w : World) (h : Rd w rb k l c) (h1 : w.cell? ⟨bp, 0, none⟩ = some (at0 b)) (hbp : bp ≠ rb) (hbb : bp ≠ b) (hB : Blk w b 41 cs.toArray) (hgb : b ≠ rb) (hkg : k ≠ some b)
 (hk : ∀ y, k = some y → y < w.heap.size) (hl : l.length ≤ 1000000000) (ho : 5 < cs.length) :
 Calls Try.prog 63 #[at0 rb, at0 bp] w fun e w' => e = .returned (.tuple #[]) ∧ Rd w' rb k (rText (l, c)).1.1 (rText (l, c)).1.2 ∧ Blk w' b 41 (cs.set 5 (.string (⟨(rText (l, c)).2.toArray⟩ : ByteArray))).toArray ∧ Touch [b, rb] w w' := by
 have H := hide h;have HB := hide hB;have HBP := hide hbp;have HBB := hide hbb;have HGB := hide hgb;have HKG := hide hkg;have HK := hide hk;have HL := hide hl;have HOF := hide ho;clear h hB hbp hbb hgb hkg hk hl ho
 go_enter Try.func63, Try.ntmps63
 go_wp2_with fail
 refine wp_region_held_drew (S := fun W => W.cell? ⟨bp, 0, none⟩ = some (at0 b)) (by kernel_rfl) (h1) (fun hS0 => ?_)
 replace H : Hid (Rd w.drew rb k l c) := hide H.out
 replace HB : Hid (Blk w.drew b _ cs.toArray) := hide HB.out
 replace HK : Hid (∀ y, k = some y → y < w.drew.heap.size) := hide HK.out
 refine tk 0 ?_;refine tk 1 ?_
 refine tr1 2 fun K hK => ?_
 go_simp
 refine (rdText_c rb k l c _ H.out (by have := HL.out; omega) (fun y hy => by have := HK.out y hy; exact this)).mono ?_
 rintro e w2 ⟨rfl, hr2, ht2⟩
 have HR2 := hide hr2;have HT2 := hide ht2
 have HB2 := hide (HB.out.touch ht2 (by simpa using HGB.out))
 obtain ⟨u, hu⟩ : ∃ u, cs[5]? = some u := ⟨_, List.getElem?_eq_getElem HOF.out⟩
 have c3 : w2.cell? ⟨b, 5, none⟩ = some u := (HB2.out.cell 5).trans (by simpa using hu)
 have f3 := HB2.out.froz 5
 have k2 : w2.cell? ⟨bp, 0, none⟩ = some (at0 b) := by rw [World.cell?_of_block (ht2.block bp (block_lt_of_cell h1) (by simpa using HBP.out))]; exact h1
 generalize hz : (⟨(rText (l, c)).2.toArray⟩ : ByteArray) = z at *
 have HZ := hide hz;clear hz hr2 ht2 hu
 refine hK.out _ _ (k2) (fun hS2 => ?_)
 clear hK K
 try simp only [Act.put, qa, qb, qc, qd, qe, qf]
 refine tk 3 ?_;refine tk 4 ?_
 refine tr1 5 fun K hK => ?_
 go_simp
 have HTS : Hid (Touch [b] w2 (w2.setCell ⟨b, 5, none⟩ (.string z))) := hide ((Touch.refl [b] w2).set (.inl (by simp)) 5 _)
 have k3 : (w2.setCell ⟨b, 5, none⟩ (.string z)).cell? ⟨bp, 0, none⟩ = some (at0 b) := by rw [World.cell?_of_block (HTS.out.block bp (block_lt_of_cell k2) (by simpa using HBB.out))]; exact k2
 refine hK.out _ _ (k3) (fun hS5 => ?_)
 clear hK K
 try simp only [Act.put, qa, qb, qc, qd, qe, qf]
 refine wpAnyH_done (by kernel_rfl) ?_ _
 clear hS0
 go_end0
 rw [HZ.out]
 refine ⟨rfl, HR2.out.touch HTS.out (by simpa using Ne.symm HGB.out) (fun y hy hm => HKG.out (by rw [hy]; simpa using hm)), ?_, ((Touch.refl [b, rb] w).drew.next HT2.out (fun s hs => .inl (List.mem_cons_of_mem _ hs))).next HTS.out (fun s hs => .inl (by simp only [List.mem_singleton] at hs; simp [hs]))⟩
 have := HB2.out.put 5 (.string z)
 rwa [List.setIfInBounds_toArray] at this
set_option maxRecDepth 100000 in
set_option maxHeartbeats 4000000 in
theorem vread_c (rb : Nat) (k : Option Nat) (l : List UInt8) (c : Int) (b bp : Nat)  (cs : List Value) (w : World) (h : Rd w rb k l c) (h1 : w.cell? ⟨bp, 0, none⟩ = some (at0 b)) (hbp : bp ≠ rb) (hbb : bp ≠ b) (hB : Blk w b 41 cs.toArray) (hgb : b ≠ rb) (hkg : k ≠ some b)
 (hk : ∀ y, k = some y → y < w.heap.size) (hl : l.length ≤ 1000000000) (ho : 17 < cs.length) :
 Calls Try.prog 68 #[at0 rb, at0 bp] w fun e w' => e = .returned (.tuple #[]) ∧ Rd w' rb k (rInt (l, c)).1.1 (rInt (l, c)).1.2 ∧ Blk w' b 41 (cs.set 17 (.int .i64 (rInt (l, c)).2)).toArray ∧ Touch [b, rb] w w' := by
 have H := hide h;have HB := hide hB;have HBP := hide hbp;have HBB := hide hbb;have HGB := hide hgb;have HKG := hide hkg;have HK := hide hk;have HL := hide hl;have HOF := hide ho;clear h hB hbp hbb hgb hkg hk hl ho
 go_enter Try.func68, Try.ntmps68
 go_wp2_with fail
 refine wp_region_held_drew (S := fun W => W.cell? ⟨bp, 0, none⟩ = some (at0 b)) (by kernel_rfl) (h1) (fun hS0 => ?_)
 replace H : Hid (Rd w.drew rb k l c) := hide H.out
 replace HB : Hid (Blk w.drew b _ cs.toArray) := hide HB.out
 replace HK : Hid (∀ y, k = some y → y < w.drew.heap.size) := hide HK.out
 refine tk 0 ?_;refine tk 1 ?_
 refine tr1 2 fun K hK => ?_
 go_simp
 refine (rdInt_c rb k l c _ H.out (by have := HL.out; omega)).mono ?_
 rintro e w2 ⟨rfl, hr2, ht2⟩
 have HR2 := hide hr2;have HT2 := hide ht2
 have HB2 := hide (HB.out.touch ht2 (by simpa using HGB.out))
 obtain ⟨u, hu⟩ : ∃ u, cs[17]? = some u := ⟨_, List.getElem?_eq_getElem HOF.out⟩
 have c3 : w2.cell? ⟨b, 17, none⟩ = some u := (HB2.out.cell 17).trans (by simpa using hu)
 have f3 := HB2.out.froz 17
 have k2 : w2.cell? ⟨bp, 0, none⟩ = some (at0 b) := by rw [World.cell?_of_block (ht2.block bp (block_lt_of_cell h1) (by simpa using HBP.out))]; exact h1
 generalize hz : (rInt (l, c)).2 = z at *
 have HZ := hide hz;clear hz hr2 ht2 hu
 refine hK.out _ _ (k2) (fun hS2 => ?_)
 clear hK K
 try simp only [Act.put, qa, qb, qc, qd, qe, qf]
 refine tk 3 ?_;refine tk 4 ?_
 refine tr1 5 fun K hK => ?_
 go_simp
 have HTS : Hid (Touch [b] w2 (w2.setCell ⟨b, 17, none⟩ (.int .i64 z))) := hide ((Touch.refl [b] w2).set (.inl (by simp)) 17 _)
 have k3 : (w2.setCell ⟨b, 17, none⟩ (.int .i64 z)).cell? ⟨bp, 0, none⟩ = some (at0 b) := by rw [World.cell?_of_block (HTS.out.block bp (block_lt_of_cell k2) (by simpa using HBB.out))]; exact k2
 refine hK.out _ _ (k3) (fun hS5 => ?_)
 clear hK K
 try simp only [Act.put, qa, qb, qc, qd, qe, qf]
 refine wpAnyH_done (by kernel_rfl) ?_ _
 clear hS0
 go_end0
 rw [HZ.out]
 refine ⟨rfl, HR2.out.touch HTS.out (by simpa using Ne.symm HGB.out) (fun y hy hm => HKG.out (by rw [hy]; simpa using hm)), ?_, ((Touch.refl [b, rb] w).drew.next HT2.out (fun s hs => .inl (List.mem_cons_of_mem _ hs))).next HTS.out (fun s hs => .inl (by simp only [List.mem_singleton] at hs; simp [hs]))⟩
 have := HB2.out.put 17 (.int .i64 z)
 rwa [List.setIfInBounds_toArray] at this
end
section
open List renaming getElem_toArray → qa, getElem_cons_zero → qb, getElem_cons_succ → qc, setIfInBounds_toArray → qd, set_cons_zero → qe, set_cons_succ → qf
open Go.ChangeShapes Go.WideShapes Go.ChangeAt Go.RowKit
set_option maxRecDepth 100000 in
set_option maxHeartbeats 4000000 in
theorem uread_c (rb : Nat) (k : Option Nat) (l : List UInt8) (c : Int) (b bm b8 bn bl : Nat) (vn vl : Value) (cs : List Value) (A0 : Nat) (w : World) (h : Rd w rb k l c) (h8 : w.cell? ⟨b8, 0, none⟩ = some (.func (.func 84) #[] #[at0 bn, at0 bl])) (hm : w.cell? ⟨bm, 0, none⟩ = some (at0 b))
 (h1 : w.cell? ⟨bn, 0, none⟩ = some vn) (h2 : w.cell? ⟨bl, 0, none⟩ = some vl) (hn : Ptrs w vn b [13, 14, 15]) (hl : Ptrs w vl b []) (hvn : ∀ q, vn.ownBlock = some q → q ≠ b ∧ q ≠ rb) (hvl : ∀ q, vl.ownBlock = some q → q ≠ b ∧ q ≠ rb) (hbl : bl ≠ b ∧ bl ≠ rb) (hbm : bm ≠ b ∧ bm ≠ rb)
 (hB : Blk w b 41 cs.toArray) (hgb : b ≠ rb) (hkg : k ≠ some b) (hk : ∀ j, k = some j → j < w.heap.size) (hlb : l.length ≤ 1000000000) (hcs : cs.length = 47) (hA : b < A0 ∧ rb < A0 ∧ A0 ≤ w.heap.size) :
 Calls Try.prog 54 #[at0 rb, at0 b8, at0 bm] w fun e w' => e = .returned (.tuple #[]) ∧ Rd w' rb k (rInt (rList 3 (l, c)).1).1.1 (rInt (rList 3 (l, c)).1).1.2 ∧
  Blk w' b 41 ((setI cs ([13, 14, 15].zip (rList 3 (l, c)).2)).set 16 (.int .i64 (rInt (rList 3 (l, c)).1).2)).toArray ∧ Touch [b, rb] w w' := by
 have HPR := hide (pread_c rb k l c b 41 cs [13, 14, 15] [] bn bl vn vl A0 w h h1 h2 hn hl hvn hvl hbl hB hgb hkg hk hlb (by rw [hcs]; decide) (by intro o ho; cases ho) hA)
 have HGB := hide hgb;have HBM := hide hbm;have HKG := hide hkg;have HL := hide hlb;have HCS := hide hcs;clear h h1 h2 hn hl hvn hvl hbl hbm hB hgb hkg hk hlb hcs hA
 go_enter Try.func54, Try.ntmps54
 go_wp2_with fail
 refine HPR.out.mono ?_
 rintro e w1 ⟨rfl, vs, hvs, hr1, hb1, ht1⟩
 have hv0 : vs = [] := List.eq_nil_of_length_eq_zero hvs.1
 subst hv0
 have k1 : w1.cell? ⟨bm, 0, none⟩ = some (at0 b) := by rw [World.cell?_of_block (ht1.block bm (block_lt_of_cell hm) (by simpa using HBM.out))]; exact hm
 have H1 : Hid (Rd w1 rb k (rList 3 (l, c)).1.1 (rList 3 (l, c)).1.2) := hide hr1
 have HB1 : Hid (Blk w1 b 41 (setI cs ([13, 14, 15].zip (rList 3 (l, c)).2)).toArray) := hide hb1
 have HT1 := hide ht1
 have HRL : Hid ((rList 3 (l, c)).1.1.length ≤ 1000000000) := hide (Nat.le_trans (rList_len _ _) HL.out)
 have HCL : Hid (16 < (setI cs ([13, 14, 15].zip (rList 3 (l, c)).2)).length) := hide (by rw [setI_len, HCS.out]; decide)
 generalize hc1 : setI cs ([13, 14, 15].zip (rList 3 (l, c)).2) = cs1 at *
 generalize hr0 : (rList 3 (l, c)).1 = r1 at *
 have HC1 := hide hc1;have HR0 := hide hr0;clear hvs hr1 hb1 ht1 h8 hm HPR hc1 hr0
 go_wp2_with fail
 refine wp_region_held_drew (S := fun W => W.cell? ⟨bm, 0, none⟩ = some (at0 b)) (by kernel_rfl) (k1) (fun hS0 => ?_)
 replace H1 : Hid (Rd w1.drew rb k r1.1 r1.2) := hide H1.out
 replace HB1 : Hid (Blk w1.drew b _ cs1.toArray) := hide HB1.out
 refine tk 0 ?_;refine tk 1 ?_
 refine tr1 2 fun K hK => ?_
 go_simp
 refine (rdInt_c rb k r1.1 r1.2 _ H1.out (by have := HRL.out; omega)).mono ?_
 rintro e w2 ⟨rfl, hr2, ht2⟩
 have HR2 := hide hr2;have HT2 := hide ht2
 have HB2 := hide (HB1.out.touch ht2 (by simpa using HGB.out))
 obtain ⟨u, hu⟩ : ∃ u, cs1[16]? = some u := ⟨_, List.getElem?_eq_getElem HCL.out⟩
 have c3 : w2.cell? ⟨b, 16, none⟩ = some u := (HB2.out.cell 16).trans (by simpa using hu)
 have f3 := HB2.out.froz 16
 have k2 : w2.cell? ⟨bm, 0, none⟩ = some (at0 b) := by rw [World.cell?_of_block (ht2.block bm (block_lt_of_cell k1) (by simpa using HBM.out.2))]; exact k1
 generalize hz : (rInt (r1.1, r1.2)).2 = z at *
 have HZ := hide hz;clear hz hr2 ht2 hu
 refine hK.out _ _ (k2) (fun hS2 => ?_)
 clear hK K
 try simp only [Act.put, qa, qb, qc, qd, qe, qf]
 refine tk 3 ?_;refine tk 4 ?_;refine tk 5 ?_
 refine tr1 6 fun K hK => ?_
 go_simp
 have HTS : Hid (Touch [b] w2 (w2.setCell ⟨b, 16, none⟩ (.int .i64 z))) := hide ((Touch.refl [b] w2).set (.inl (by simp)) 16 _)
 have k3 : (w2.setCell ⟨b, 16, none⟩ (.int .i64 z)).cell? ⟨bm, 0, none⟩ = some (at0 b) := by rw [World.cell?_of_block (HTS.out.block bm (block_lt_of_cell k2) (by simpa using HBM.out.1))]; exact k2
 refine hK.out _ _ (k3) (fun hS6 => ?_)
 clear hK K
 try simp only [Act.put, qa, qb, qc, qd, qe, qf]
 refine wpAnyH_done (by kernel_rfl) ?_ _
 clear hS0
 go_end0
 rw [HC1.out, HR0.out]
 have hz : (rInt r1).2 = z := HZ.out
 rw [hz]
 refine ⟨rfl, HR2.out.touch HTS.out (by simpa using Ne.symm HGB.out) (fun y hy hm => HKG.out (by rw [hy]; simpa using hm)), ?_, (HT1.out.drew.next HT2.out (fun s hs => .inl (List.mem_cons_of_mem _ hs))).next HTS.out (fun s hs => .inl (by simp only [List.mem_singleton] at hs; simp [hs]))⟩
 have := HB2.out.put 16 (.int .i64 z)
 rwa [List.setIfInBounds_toArray] at this
end
section
open Go.ChangeShapes Go.WideShapes Go.ChangeAt Go.RowKit
theorem rGL_len (r : RS) : (rGL r).1.1.length ≤ r.1.length := Nat.le_trans (rList_len _ _) (rCnt_len _)
theorem rGL_i64 (r : RS) : ∀ x ∈ (rGL r).2, I64 x := rList_i64 _ _
theorem info_cfg0 : (Try.prog.info? 34).map (·.zero) = some (some (.agg ([zl, zl, zl] : List Value).toArray)) := by kernel_rfl
/-- A list was read: what is left of it in the words of the reader. -/
theorem GotL.use {w w' : World} {b : Nat} {k : Option Nat} {r : RS} {l : List Int} {e : Ending} (h : GotL w b k r l e w') (hl : ∀ x ∈ l, I64 x) {A0 : Nat} (hA : A0 ≤ w.heap.size) : ∃ A n c, e = .returned (.slice A n c) ∧ LiAB w' A0 w'.heap.size (.slice A n c) l ∧ Rd w' b k r.1 r.2 ∧ Touch [b] w w' := by
 obtain ⟨v, rfl, h1, h2, h3⟩ := h
 have h4 := (h1.li hl).lower hA
 obtain ⟨A, n, c, rfl⟩ := h4.formN
 exact ⟨A, n, c, rfl, h4, h2, h3⟩
set_option maxRecDepth 100000 in
set_option maxHeartbeats 4000000 in
theorem rconfig_c (b : Nat) (k : Option Nat) (l : List UInt8) (c : Int) (w : World) (h : Rd w b k l c) (hl : l.length ≤ 1000000000) (hk : ∀ j, k = some j → j < w.heap.size) :
 Calls Try.prog 107 #[.agg #[at0 b]] w fun e w' => ∃ A1 n1 c1 A2 n2 c2 A3 n3 c3, e = .returned (.agg #[.slice A1 n1 c1, .slice A2 n2 c2, .slice A3 n3 c3]) ∧
  LiAB w' w.heap.size w'.heap.size (.slice A1 n1 c1) (rGL (l, c)).2 ∧ LiAB w' w.heap.size w'.heap.size (.slice A2 n2 c2) (rGL (rGL (l, c)).1).2 ∧ LiAB w' w.heap.size w'.heap.size (.slice A3 n3 c3) (rGL (rGL (rGL (l, c)).1).1).2 ∧
  Rd w' b k (rGL (rGL (rGL (l, c)).1).1).1.1 (rGL (rGL (rGL (l, c)).1).1).1.2 ∧ Touch [b] w w' := by
 have HBL := hide h.lt
 have HO := hide (Own.nil w [] (by simp))
 have H := hide h;have HL := hide hl;have HK := hide hk;clear h hl hk
 go_enter Try.func107, Try.ntmps107
 go_wp2_with (first
  | ((with_reducible refine at_box 157 (.tmp 0) ?_); refine wpList_box_own HO.out rfl 157 (.tmp 0) rfl [at0 b] rfl ?_; intro WA g hO; replace HO := hide hO; clear hO)
  | ((with_reducible refine at_alloc 34 ?_); refine wpList_alloc_own HO.out rfl 34 rfl ([zl, zl, zl]) info_cfg0 ?_; intro W0 g2 hO; replace HO := hide hO; clear hO)
  | ((with_reducible refine at_load 157 (.tmp 1) ?_); refine wpList_load_own HO.out rfl 157 (.tmp 1) rfl 0 _ 0 1 _ _ [at0 b] _ rfl rfl rfl Try.underlying157 rfl (by kernel_rfl) ?_))
 have HR1 := hide (H.out.step HO.out.below)
 have HG2 : Hid (g2 < W0.heap.size ∧ b < W0.heap.size ∧ w.heap.size ≤ W0.heap.size) := hide ⟨(HO.out.blk 1 rfl).lt, Nat.lt_of_lt_of_le HBL.out HO.out.size, HO.out.size⟩
 replace HO := hide (HO.out.plus [b] (by simpa using HBL.out))
 refine (rlist_c b k l c _ HR1.out HL.out (fun j hj => Nat.lt_of_lt_of_le (HK.out j hj) HO.out.size)).mono ?_
 rintro e w2 hg2
 obtain ⟨A1, n1, c1, rfl, hl1, hr2, ht2⟩ := hg2.use (rGL_i64 _) (Nat.le_refl W0.heap.size)
 have HS2 := hide ht2.size
 replace HO := hide (HO.out.call ht2 (by simp))
 have HL1 := hide hl1;have HR2 := hide hr2;clear hg2 hl1 hr2 ht2
 go_wp2_with ((with_reducible refine at_load 157 (.tmp 1) ?_); refine wpList_load_own HO.out rfl 157 (.tmp 1) rfl 0 _ 0 1 _ _ [at0 b] _ rfl rfl rfl Try.underlying157 rfl (by kernel_rfl) ?_)
 refine (rlist_c b k _ _ _ HR2.out (Nat.le_trans (rGL_len (l, c)) HL.out) (fun j hj => Nat.lt_of_lt_of_le (HK.out j hj) HO.out.size)).mono ?_
 rintro e w3 hg3
 obtain ⟨A2, n2, c2, rfl, hl2, hr3, ht3⟩ := hg3.use (rGL_i64 _) HS2.out
 have HS3 := hide (Nat.le_trans HS2.out ht3.size)
 replace HO := hide (HO.out.call ht3 (by simp))
 replace HL1 := hide (HL1.out.touch ht3 (Nat.le_refl _) (by simpa using HG2.out.2.1))
 have HL2 := hide hl2;have HR3 := hide hr3;clear hg3 hl2 hr3 ht3
 go_wp2_with ((with_reducible refine at_load 157 (.tmp 1) ?_); refine wpList_load_own HO.out rfl 157 (.tmp 1) rfl 0 _ 0 1 _ _ [at0 b] _ rfl rfl rfl Try.underlying157 rfl (by kernel_rfl) ?_)
 refine (rlist_c b k _ _ _ HR3.out (Nat.le_trans (rGL_len (rGL (l, c)).1) (Nat.le_trans (rGL_len (l, c)) HL.out)) (fun j hj => Nat.lt_of_lt_of_le (HK.out j hj) HO.out.size)).mono ?_
 rintro e w4 hg4
 obtain ⟨A3, n3, c3, rfl, hl3, hr4, ht4⟩ := hg4.use (rGL_i64 _) HS3.out
 replace HO := hide (HO.out.call ht4 (by simp))
 replace HL1 := hide (HL1.out.touch ht4 (Nat.le_refl _) (by simpa using HG2.out.2.1))
 replace HL2 := hide (HL2.out.touch ht4 (Nat.le_refl _) (by simpa using HG2.out.2.1))
 have HL3 := hide hl3;have HR4 := hide hr4;clear hg4 hl3 hr4 ht4
 go_wp2_with (first
  | (refine wpList_build rfl 34 #[(0, .tmp 9), (1, .tmp 10), (2, .tmp 12)] rfl [(0, .slice A1 n1 c1), (1, .slice A2 n2 c2), (2, .slice A3 n3 c3)] (by simp [Act.eval]) #[.slice A1 n1 c1, .slice A2 n2 c2, .slice A3 n3 c3] (by kernel_rfl) ?_)
  | ((with_reducible refine at_store 34 (.tmp 2) ?_); refine wpList_store_own_t HO.out rfl 34 (.tmp 2) _ rfl 1 _ 0 _ _ ([.slice A1 n1 c1, .slice A2 n2 c2, .slice A3 n3 c3]) ([.slice A1 n1 c1, .slice A2 n2 c2, .slice A3 n3 c3]) rfl (.agg ([.slice A1 n1 c1, .slice A2 n2 c2, .slice A3 n3 c3] : List Value).toArray) rfl rfl (fits_agg _) (by simp) rfl size_cfg rfl ?_; intro WA hO _ hT; have HO5 := hide hO; have HT5 := hide hT; clear hO hT))
 have HX5 : Hid (Blk WA g2 34 ([.slice A1 n1 c1, .slice A2 n2 c2, .slice A3 n3 c3] : List Value).toArray) := hide (HO5.out.blk 1 rfl)
 refine bodyPost_ret (results_cell_row Try.results107 _ _ g2 34 _ (0, 0) _ rfl HX5.out Try.underlying34 rfl size_cfg) rfl ?_
 have ht5 : ∀ s ∈ [g2], s < W0.heap.size := by simpa using HG2.out.1
 exact ⟨_, _, _, _, _, _, _, _, _, rfl, (HL1.out.touch HT5.out (Nat.le_refl _) ht5).lower HG2.out.2.2, (HL2.out.touch HT5.out (Nat.le_refl _) ht5).lower HG2.out.2.2, (HL3.out.touch HT5.out (Nat.le_refl _) ht5).lower HG2.out.2.2, HR4.out.touch HT5.out (fun hm => by have h1 := HO5.out.new 1 rfl; have := HBL.out; simp only [List.mem_singleton] at hm; omega) (fun y hy hm => by have h1 := HO5.out.new 1 rfl; have := HK.out y hy; simp only [List.mem_singleton] at hm; omega), HO5.out.touch⟩
end
section
open Go.ChangeShapes Go.WideShapes Go.ChangeAt Go.RowKit
/-- An entry is read. -/
def rEn (r : RS) : RS × En :=
 let a := rList 5 r
 let t := rText a.1
 let b := rList 4 t.1
 let f := rGL b.1
 let g := rGL f.1
 let o := rGL g.1
 let n := rGL o.1
 let q := rGL n.1
 (q.1, { index := a.2.getD 0 0, term := a.2.getD 1 0, kind := a.2.getD 2 0, client := a.2.getD 3 0, number := a.2.getD 4 0, body := ⟨t.2.toArray⟩, gen := b.2.getD 0 0, step := b.2.getD 1 0, ck := b.2.getD 2 0, cm := b.2.getD 3 0, cf := f.2, ct := g.2, co := o.2, cn := n.2, cl := q.2 })
/-- n entries. -/
def rEns : Nat → RS → RS × List En
 | 0, r => (r, [])
 | n + 1, r => ((rEn (rEns n r).1).1, (rEns n r).2 ++ [(rEn (rEns n r).1).2])
theorem rText_both (r : RS) : (rText r).1.1.length ≤ r.1.length ∧ (rText r).2.length ≤ r.1.length := by
 unfold rText
 split
 ·split
  ·rename_i n t h
   have h1 := congrArg List.length (parseN_some h).1
   rw [List.length_append] at h1
   split
   ·simp [bad]
   ·simp only [List.length_drop, List.length_take]; omega
  ·simp [bad]
 ·simp
section
attribute [local irreducible] rList rGL rText
theorem rEn_len (r : RS) : (rEn r).1.1.length ≤ r.1.length := by
 unfold rEn
 exact Nat.le_trans (rGL_len _) (Nat.le_trans (rGL_len _) (Nat.le_trans (rGL_len _) (Nat.le_trans (rGL_len _) (Nat.le_trans (rGL_len _) (Nat.le_trans (rList_len _ _) (Nat.le_trans (rText_both _).1 (rList_len _ _)))))))
theorem rEns_len (n : Nat) (r : RS) : (rEns n r).1.1.length ≤ r.1.length := by
 induction n with
 | zero => exact Nat.le_refl _
 | succ n ih => exact Nat.le_trans (rEn_len _) ih
theorem rEns_size (n : Nat) (r : RS) : (rEns n r).2.length = n := by
 induction n with
 | zero => rfl
 | succ n ih => show ((rEns n r).2 ++ [_]).length = _; rw [List.length_append, ih]; rfl
end
/-- The cells of an entry; its lists lie from A0 on. -/
def EnAB (w : World) (A0 : Nat) (cs : List Value) (x : En) : Prop := ∃ vf vt vo vn vl, cs = [.int .i64 x.index, .int .i64 x.term, .int .i64 x.kind, .int .i64 x.client, .int .i64 x.number, .string x.body, .int .i64 x.gen, .int .i64 x.step, .int .i64 x.ck, .int .i64 x.cm, vf, vt, vo, vn, vl] ∧
 LiAB w A0 w.heap.size vf x.cf ∧ LiAB w A0 w.heap.size vt x.ct ∧ LiAB w A0 w.heap.size vo x.co ∧ LiAB w A0 w.heap.size vn x.cn ∧ LiAB w A0 w.heap.size vl x.cl
theorem EnAB.len {w : World} {A0 : Nat} {cs : List Value} {x : En} (h : EnAB w A0 cs x) : cs.length = 15 := by obtain ⟨_, _, _, _, _, rfl, _⟩ := h; rfl
theorem EnAB.touch {w w' : World} {A0 : Nat} {cs : List Value} {x : En} {S : List Nat} (h : EnAB w A0 cs x) (k : Touch S w w') (hS : ∀ s ∈ S, s < A0) : EnAB w' A0 cs x := by
 obtain ⟨vf, vt, vo, vn, vl, e, h1, h2, h3, h4, h5⟩ := h
 exact ⟨vf, vt, vo, vn, vl, e, h1.touch k (Nat.le_refl _) hS, h2.touch k (Nat.le_refl _) hS, h3.touch k (Nat.le_refl _) hS, h4.touch k (Nat.le_refl _) hS, h5.touch k (Nat.le_refl _) hS⟩
theorem EnAB.turn {w w' : World} {A0 : Nat} {cs : List Value} {x : En} {S : List Nat} (h : EnAB w A0 cs x) (k : Touch S w w') (hS : ∀ s ∈ S, s < A0 ∨ ∀ cs, ¬ Blk w s 3 cs) : EnAB w' A0 cs x := by
 obtain ⟨vf, vt, vo, vn, vl, e, h1, h2, h3, h4, h5⟩ := h
 exact ⟨vf, vt, vo, vn, vl, e, h1.turn k (Nat.le_refl _) hS, h2.turn k (Nat.le_refl _) hS, h3.turn k (Nat.le_refl _) hS, h4.turn k (Nat.le_refl _) hS, h5.turn k (Nat.le_refl _) hS⟩
theorem EnAB.low {w : World} {A0 : Nat} {cs : List Value} {x : En} (h : EnAB w A0 cs x) : EnC w w.heap.size cs x := by
 obtain ⟨vf, vt, vo, vn, vl, e, h1, h2, h3, h4, h5⟩ := h
 exact ⟨vf, vt, vo, vn, vl, e, h1.low, h2.low, h3.low, h4.low, h5.low⟩
theorem EnAB.one {w : World} {A0 : Nat} {cs : List Value} {x : En} (h : EnAB w A0 cs x) : ∀ u ∈ cs, u.oneCell' = true := by
 obtain ⟨vf, vt, vo, vn, vl, rfl, h1, h2, h3, h4, h5⟩ := h
 obtain ⟨_, _, _, rfl⟩ := h1.formN
 obtain ⟨_, _, _, rfl⟩ := h2.formN
 obtain ⟨_, _, _, rfl⟩ := h3.formN
 obtain ⟨_, _, _, rfl⟩ := h4.formN
 obtain ⟨_, _, _, rfl⟩ := h5.formN
 intro u hu
 simp only [List.mem_cons, List.not_mem_nil, or_false] at hu
 rcases hu with rfl | rfl | rfl | rfl | rfl | rfl | rfl | rfl | rfl | rfl | rfl | rfl | rfl | rfl | rfl <;> rfl
theorem info_en : (Try.prog.info? 116).map (fun i => (i.zero, i.size, i.bytes)) = some (some (.agg ([zi, zi, zi, zi, zi, zs, zi, zi, zi, zi, zl, zl, zl, zl, zl] : List Value).toArray), 15, 208) := by kernel_rfl
/-- A whole slice of entries: the cells of each. -/
def OwE (w : World) (base : Nat) (v : Value) (css : List (List Value)) : Prop := w.ownsRow base 116 15 v css.length css.flatten
theorem OwE.nil (w : World) (base : Nat) : OwE w base (.slice none 0 0) [] := World.ownsRow_nil w base 116 15
theorem OwE.touch {S : List Nat} {w w' : World} {base : Nat} {v : Value} {css : List (List Value)} (h : OwE w base v css) (k : Touch S w w') (hv : ∀ j, v.ownBlock = some j → j ∉ S) : OwE w' base v css := by
 obtain ⟨hl, h1 | ⟨g, cap, cur, rfl, hb, hgg, r⟩⟩ := h
 ·exact ⟨hl, .inl h1⟩
 ·exact ⟨hl, .inr ⟨g, cap, cur, rfl, hb, (k.block g (Array.getElem?_eq_some_iff.1 hgg).1 (hv g rfl)).trans hgg, r⟩⟩
theorem OwE.lt {w : World} {base : Nat} {v : Value} {css : List (List Value)} (h : OwE w base v css) : ∀ k, v.ownBlock = some k → base ≤ k ∧ k < w.heap.size := World.ownsRow.lt h
theorem wpList_append_e {ops : Array Oper} {rest : List Oper} {o : Oper} {a : Act} {w w0 : World} {Q : Exit → Act → World → Prop} (hgd : o.guard = none) (s x : Operand)
 (ho : o.op = .call { callee := .builtin .append, args := #[s, x], argTypes := #[37, 37] }) {base : Nat} {v : Value} {css : List (List Value)} {cs : List Value} (hs : a.eval s = v) (hv : OwE w0 base v css) (hb : base ≤ w0.heap.size) (hw : w = w0.alloc (.cells cs.toArray 116))
 (hvx : a.eval x = .slice (some ⟨w0.heap.size, 0, none⟩) 1 1) (hcs : cs.length = 15) (h1 : ∀ u ∈ cs, u.oneCell' = true) (hlen : css.length ≤ 1000000000)
 (h : ∀ v' w', OwE w' base v' (css ++ [cs]) → Touch v.ownBlock.toList w0 w' → (v'.ownBlock = v.ownBlock ∨ ∃ j, v'.ownBlock = some j ∧ w0.heap.size ≤ j) → wpList Try.prog ops Q rest (a.put o.dst v') w') : wpList Try.prog ops Q (o :: rest) a w := by
 obtain ⟨i0, hi0, hz0, hz1, hz2⟩ := info_parts info_en
 subst hw
 have hv2 : (w0.alloc (.cells cs.toArray 116)).ownsRow base 116 15 v css.length css.flatten := World.ownsRow.alloc hv _
 refine wpList_append_row hgd s x 37 ho base 0 116 i0 _ 15 208 Try.underlying37 hi0 hz0 hz1 hz2 rfl (by decide) (n := css.length) (m := 1) hs hv2 hvx (row_lit w0 0 116 15 1 cs (by omega) (by unfold maxLen; omega) (Nat.zero_le _)) h1 (by unfold maxLen; omega) (by omega) (by rw [World.size_alloc]; omega) ?_
 intro v' w' hr hg ho2
 refine h v' w' ?_ ?_ ?_
 ·show w'.ownsRow base 116 15 v' (css ++ [cs]).length (css ++ [cs]).flatten
  rw [List.length_append, List.flatten_append]
  simpa using hr
 ·have h1 : Touch [] w0 (w0.alloc (.cells cs.toArray 116)) := (Touch.refl [] w0).alloc _
  exact (h1.mono (by simp)).trans (Touch.grown hg)
 ·rcases ho2 with e | e
  ·exact .inl e
  ·exact .inr ⟨_, e, by rw [World.size_alloc]; omega⟩
end
end Go.Proofs.Ytpbgelhjbfckcaa
