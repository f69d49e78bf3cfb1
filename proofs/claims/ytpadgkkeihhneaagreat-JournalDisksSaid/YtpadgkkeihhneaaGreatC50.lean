/- JournalDisks: on any contents of a disk Open finds what the reference finds. -/
import Derived.Test.YtpadgkkeihhneaaGreatC48
import Derived.Test.YtpadgkkeihhneaaGreatC43
import Derived.Test.YtpadgkkeihhneaaGreatC44
namespace Go.Proofs.YtpadgkkeihhneaaGreat
set_option maxRecDepth 100000
set_option linter.unusedSimpArgs false
set_option linter.unusedVariables false
open List renaming getElem_toArray → qa, getElem_cons_zero → qb, getElem_cons_succ → qc, setIfInBounds_toArray → qd, set_cons_zero → qe, set_cons_succ → qf
open Go.ChangeShapes Go.WideShapes Go.ChangeAt Go.RowKit
theorem wpList_alloc1_own {w w0 : World} {S : List Nat} {L : List (Nat × TypeId × List Value)} {ops : Array Oper} {rest : List Oper} {op : Oper} {a : Act} {Q : Exit → Act → World → Prop}
 (HO : Own w0 S L w) (hgd : op.guard = none) (t : TypeId) (ho : op.op = .alloc t) (z : Value) (hi : (Tryz.prog.info? t).map (·.zero) = some (some z)) (hz : z.cells = #[z])
 (h : ∀ w' b, b = w.heap.size → Own w0 S (L ++ [(b, t, [z])]) w' → Below w.heap.size w w' → wpList Tryz.prog ops Q rest (a.put op.dst (.pointer (some ⟨b, 0, none⟩))) w') : wpList Tryz.prog ops Q (op :: rest) a w := by
 refine wpList_plain hgd fun K hK => ?_
 have hr : (Instr.alloc t true (.tuple #[])).run Tryz.prog w = .ok (.pointer (some ⟨w.heap.size, 0, none⟩)) (w.alloc (.cells #[z] t)) := by
  obtain ⟨i, hi1, hi2⟩ := Option.map_eq_some_iff.mp hi
  have hz2 := hz
  unfold Value.cells at hz2
  simp [Instr.alloc, zeroValue, typeInfo, hi1, hi2, hz, hz2, newVar, newRow, go_sem]
 unfold Oper.wp execOp
 simp only [ho, Sem.run_bind, hr, Result.andThen_ok]
 exact hK _ _ (h _ _ rfl (HO.push (Blk.new w t #[z]) ((Below.refl _ _).alloc (Nat.le_refl _) _)) ((Below.refl _ _).alloc (Nat.le_refl _) _))
theorem row5 {W : World} {g o : Nat} {x0 x1 x2 x3 x4 : Value} (c0 : W.cell? ⟨g, o, none⟩ = some x0) (c1 : W.cell? ⟨g, o + 1, none⟩ = some x1) (c2 : W.cell? ⟨g, o + 2, none⟩ = some x2) (c3 : W.cell? ⟨g, o + 3, none⟩ = some x3) (c4 : W.cell? ⟨g, o + 4, none⟩ = some x4) : ∀ j v, ([x0, x1, x2, x3, x4] : List Value)[j]? = some v → W.cell? ⟨g, o + j, none⟩ = some v := by
 intro j v h
 match j, h with
 | 0, h => simp at h; subst h; exact c0
 | 1, h => simp at h; subst h; exact c1
 | 2, h => simp at h; subst h; exact c2
 | 3, h => simp at h; subst h; exact c3
 | 4, h => simp at h; subst h; exact c4
 | j + 5, h => simp at h
set_option maxHeartbeats 8000000 in
theorem walkJournalDisks (W : World) (v0 : Value) (l : List (List UInt8)) (h0 : BssIn W v0 l) (v1 : Value) (bl : List POp) (h1 : PopsIn W v1 bl) :
 Calls Tryz.prog 3 #[v0, v1] W fun e w' => e = .returned (.bool true) ∧ Below W.heap.size W w' := by
 obtain ⟨Al, nl, cl, rfl, hnl, hnc, hcm⟩ := h0.form
 obtain ⟨Ab, nb, cb, rfl, hnb, hbc, hbm⟩ := h1.form
 have H0 := hide h0
 have H1 := hide h1
 have HFW := hide (fun (X : World) (k : Below W.heap.size W X) => fewP_c _ bl 8 X (h1.step k))
 have hmf : ∀ (fn : Fn) (first cap : Array Value) (w : World), (Instr.makeFunc fn first cap).run Tryz.prog w = .ok (.func fn first cap) w := fun _ _ _ _ => rfl
 clear h0 h1
 go_enter Tryz.func3, Tryz.ntmps3
 go_wp2_with fail
 refine (awake_c _).mono ?_
 rintro e w1 ⟨rfl, hb1⟩
 have HB1 := hide hb1
 clear hb1
 by_cases h12 : 12 < nl
 ·have h12i : (12 : Int) < (nl : Int) := by omega
  go_wp2_with fail
  go_ret
  exact ⟨rfl, HB1.out⟩
 have h12i : (nl : Int) ≤ 12 := by omega
 have HL12 : Hid (nl ≤ 12) := hide (by omega)
 clear h12
 go_wp2_with fail
 refine (HFW.out w1 HB1.out).mono ?_
 rintro e w2 ⟨rfl, rfl⟩
 by_cases hf : fewP bl 8 = true
 case neg =>
  have hf' : fewP bl 8 = false := by simpa using hf
  rw [hf']
  clear hf hf'
  go_wp2_with fail
  go_ret
  exact ⟨rfl, HB1.out⟩
 have HL8 := hide (fewP_len (k := 8) hf)
 rw [hf]
 clear hf HFW
 obtain ⟨n, hn⟩ : ∃ n : Nat, 8 + (nl : Int) % 5 = n := ⟨8 + nl % 5, by omega⟩
 have HN8 : Hid (8 ≤ n ∧ n ≤ 12) := hide (by omega)
 go_wp2_with fail
 have hO0 := ((Own.nil W [] (by simp)).step HB1.out).push (t := 3) (cs := [.int .i64 n]) (Blk.new w1 _ #[.int .i64 n]) ((Below.refl _ _).alloc (Nat.le_refl _) _)
 generalize w1.alloc (.cells #[.int .i64 (n : Int)] 3) = wA at hO0 ⊢
 generalize w1.heap.size = bn at hO0 ⊢
 have HO := hide hO0
 clear hO0
 refine (new_c n (by have := HN8.out; omega) (by have := HN8.out; omega) _).mono ?_
 rintro e w3 ⟨d, F0, rfl, hd, hb3, hF0⟩
 have HD := hide hd
 have hbl := (HO.out.blk 0 rfl).lt
 have HF0 : Hid (∀ j ∈ F0, W.heap.size ≤ j ∧ j ≠ bn) := hide (fun j hj => by have h1 := hF0 j hj; have h2 := HO.out.size; exact ⟨by omega, by omega⟩)
 replace HO := hide (HO.out.step hb3)
 clear hd hb3 hF0 hbl
 go_wp2_with ((with_reducible refine at_alloc 26 ?_); refine Hid.out ?_)
 refine hide ?_
 refine wpList_alloc1_own HO.out rfl 26 rfl (.pointer none) (by kernel_rfl) rfl ?_
 intro wB bd hbd hO hbel
 have HF1 : Hid (∀ j ∈ F0, W.heap.size ≤ j ∧ j ≠ bn ∧ j ≠ bd) := hide (fun j hj => ⟨(HF0.out j hj).1, (HF0.out j hj).2, by have := HD.out.lt j hj; omega⟩)
 replace HO := hide hO
 replace HD := hide (HD.out.step hbel)
 clear hO hbd hbel HF0
 go_wp2_with ((with_reducible refine at_store 26 (.tmp 6) ?_); refine wpList_store_own_t HO.out rfl 26 (.tmp 6) (.tmp 37) rfl 1 _ 0 _ _ ([.pointer (some ⟨d, 0, none⟩)]) ([.pointer (some ⟨d, 0, none⟩)]) rfl (.pointer (some ⟨d, 0, none⟩)) rfl rfl (fits_one rfl) (by simp) rfl (by kernel_rfl) rfl ?_; intro WC hO _ ht; replace HD := hide (HD.out.touch ht (fun j hj hm => (HF1.out j hj).2.2 (by simpa using hm))); replace HO := hide hO; clear hO ht; have k0 := HO.out.cells 0 rfl)
 refine (new_r (F0 ++ [bn, bd] ++ []) n (by have := HN8.out; omega) (by have := HN8.out; omega) _ (fun j hj => ?_)).mono ?_
 ·rw [List.append_nil] at hj
  rcases List.mem_append.1 hj with hj | hj
  ·exact HD.out.lt j hj
  ·simp only [List.mem_cons, List.not_mem_nil, or_false] at hj
   rcases hj with rfl | rfl
   ·exact (HO.out.blk 0 rfl).lt
   ·exact (HO.out.blk 1 rfl).lt
 rintro e w4 ⟨v4, rfl, hr, hb4⟩
 obtain ⟨A, nn, c, B, m, bb, vs, xs, rfl, hk⟩ := hr.form
 unfold rv at hr ⊢
 have HM : Hid (∀ j ∈ [bn, bd], W.heap.size ≤ j ∧ j < w4.heap.size) := hide (fun j hj => by
  simp only [List.mem_cons, List.not_mem_nil, or_false] at hj
  rcases hj with rfl | rfl
  ·exact ⟨(HO.out.has (j, 3, [.int .i64 n]) (by simp)).2, Nat.lt_of_lt_of_le (HO.out.blk 0 rfl).lt hb4.size⟩
  ·exact ⟨(HO.out.has (j, 26, [.pointer (some ⟨d, 0, none⟩)]) (by simp)).2, Nat.lt_of_lt_of_le (HO.out.blk 1 rfl).lt hb4.size⟩)
 replace HO := hide (HO.out.step hb4)
 have HZ : Hid (Zs (fun W G => Disk W d G (dNew n)) W W [] [bn, bd] w4 (.agg (rjc A nn c B m bb (dNew n).fuse (dNew n).failed 0 (sv []) (.slice none 0 0) 0 false).toArray) (dNew n) js0) := hide ⟨F0, HD.out.step hb4, fun j hj => ⟨(HF1.out j hj).1, by simp, by simpa using (HF1.out j hj).2⟩, ⟨A, nn, c, B, m, bb, .slice none 0 0, rfl, hr, Rs.nil _ _, fun j hj => by cases hj⟩, by simp, HM.out, (Away.refl [] W).next (Touch.below HO.out.below []) (by simp) (by simp), HO.out.size⟩
 clear hr hb4 hk HD HF1 HM
 unfold rjc at HZ
 obtain ⟨fz, hfz⟩ : ∃ z, (dNew n).fuse = z := ⟨_, rfl⟩
 obtain ⟨fl, hfl⟩ : ∃ z, (dNew n).failed = z := ⟨_, rfl⟩
 rw [hfz, hfl] at HZ
 rw [hfz, hfl]
 have HFZ := hide hfz
 have HFL := hide hfl
 clear hfz hfl
 go_wp2_with (first
  | ((with_reducible refine at_alloc 32 ?_); refine wpList_alloc_own_n HO.out rfl 32 rfl [.slice none 0 0, .slice none 0 0, .int .i64 0, .bool false] rdisk_info ?_; intro WA bw hb hO hbel; replace HZ := hide (HZ.out.push (keeps_dk d (dNew n)) hb hbel (hO.has _ (List.mem_append_right _ (List.mem_singleton.2 rfl))).1.lt); replace HO := hide hO; clear hO hbel hb)
  | ((with_reducible refine at_store 32 (.tmp 8) ?_); refine wpList_store_own_t HO.out rfl 32 (.tmp 8) (.tmp 42) rfl 2 _ 0 _ _ ([.slice A nn c, .slice B m bb, .int .i64 fz, .bool fl]) ([.slice A nn c, .slice B m bb, .int .i64 fz, .bool fl]) rfl (.agg ([.slice A nn c, .slice B m bb, .int .i64 fz, .bool fl] : List Value).toArray) rfl rfl (fits_agg _) (by simp [zlw]) (splice_all rfl) (by kernel_rfl) rfl ?_; intro WA hO _ ht; replace HZ := hide (HZ.out.put (keeps_dk d (dNew n)) (by simp) ht); replace HO := hide hO; clear hO ht; have k0 := HO.out.cells 1 rfl))
 have HJ : Hid (Jd W n d bn bd bw 0 [] WA) := hide ⟨dNew n, A, nn, c, B, m, bb, W, Cs.new n, by rw [HFZ.out, HFL.out]; exact HO.out, by rw [HFZ.out, HFL.out]; exact HZ.out⟩
 clear HO HZ HFZ HFL k0
 go_loopw [53] (fun v53 wr => ∃ k : Nat, v53 = .int .i64 k ∧ k ≤ nl ∧ Jd W n d bn bd bw k [] wr) (fun v53 _ => nl - (intOf v53).toNat)
 case atStart => exact ⟨0, rfl, Nat.zero_le _, HJ.out⟩
 case round =>
  obtain ⟨k, rfl, hk, hj⟩ := hrel
  clear HJ
  have HJ := hide hj
  by_cases hlt : k < nl
  ·have hil : k < l.length := by rw [← hnl.out]; exact hlt
   obtain ⟨g, o, A1, m1, c1, rfl, hcell, hbs⟩ := H0.out.at_ hj.below k hil
   obtain ⟨lk, hlk⟩ : ∃ x, l[k] = x := ⟨_, rfl⟩
   rw [hlk] at hbs
   clear hlk
   have HBS := hide hbs
   have HLT := hide hlt
   have hki : (k : Int) < (nl : Int) := by omega
   have HK2 : Hid (k ≤ 12) := hide (by have := HL12.out; omega)
   clear hj hbs hlt hil hk
   go_wp2_with fail
   refine (jwrite_c W n d bn bd bw k (by have := HN8.out; omega) (by have := HK2.out; omega) (k : Int) (by have := HK2.out; omega) _ _ _ [] HJ.out HBS.out).mono ?_
   rintro e w5 ⟨rfl, hj, _⟩
   clear HJ
   have HJ := hide hj
   clear hj hcell
   go_wp2_with fail
   go_roundw
   case rel => exact ⟨k + 1, by go_num, HLT.out, HJ.out⟩
   case measure => have := HLT.out; simp [intOf]; omega
  ·obtain rfl : k = nl := by omega
   replace HJ : Hid (Jd W n d bn bd bw 12 [] wr) := hide (hj.mono HL12.out)
   clear hj hlt hk
   go_wp2_with fail
   go_loopw [66] (fun v66 wr => ∃ k : Nat, v66 = .int .i64 k ∧ k ≤ nb ∧ Jd W n d bn bd bw (12 + 5 * k) [] wr) (fun v66 _ => nb - (intOf v66).toNat)
   case atStart => exact ⟨0, rfl, Nat.zero_le _, HJ.out⟩
   case round =>
    obtain ⟨k, rfl, hk, hj⟩ := hrel
    clear HJ
    have HJ := hide hj
    by_cases hlt : k < nb
    ·have hil : k < bl.length := by rw [← hnb.out]; exact hlt
     obtain ⟨gl, ol, rfl, hgl, hok, hcx⟩ := H1.out.at_ k hil
     obtain ⟨o, hxs⟩ : ∃ o, bl[k]? = some o := ⟨_, List.getElem?_eq_getElem hil⟩
     have hox : bl[k] = o := by rw [List.getElem?_eq_getElem hil] at hxs; injection hxs
     clear hcx
     rw [hox] at hok
     obtain ⟨As, ms, cs, hsv, hx1, hx2, hx3⟩ := hok.surv.formN
     have HC : Hid (∀ X, Below W.heap.size W X → (fun W => W.cell? ⟨gl, ol + k * 5 + 1, none⟩ = some (.int .i64 o.n) ∧ W.cell? ⟨gl, ol + k * 5 + 2, none⟩ = some (.int .i64 o.m) ∧ ∀ j v, ([.int .i64 o.kind, .int .i64 o.n, .int .i64 o.m, .int .u8 o.fill, .slice As ms cs] : List Value)[j]? = some v → W.cell? ⟨gl, ol + k * 5 + j, none⟩ = some v) X) := hide (fun X hX => by
      obtain ⟨c0, c1, c2, c3, c4⟩ := pop_cells (w' := X) H1.out hil o hxs hsv (fun a ha => hX.cell (p := a) (by rw [ha]; exact hgl))
      exact ⟨c1, c2, row5 c0 c1 c2 c3 c4⟩)
     obtain ⟨tz, htz⟩ : ∃ t : Nat, (max 0 o.m) % 4 = t := ⟨((max 0 o.m) % 4).toNat, by omega⟩
     obtain ⟨iz, hiz⟩ : ∃ t : Nat, (max 0 o.n) % 3 = t := ⟨((max 0 o.n) % 3).toNat, by omega⟩
     obtain ⟨za, hza⟩ : ∃ z : Int, (max 0 o.n) % (n : Int) = z := ⟨_, rfl⟩
     have HZA : Hid (0 ≤ za ∧ za < n) := hide (by have := HN8.out; rw [← hza]; exact ⟨Int.emod_nonneg _ (by omega), Int.emod_lt_of_pos _ (by omega)⟩)
     have e4 : (max 0 o.m).tmod 4 = (tz : Int) := by rw [Int.tmod_eq_emod_of_nonneg (by omega)]; exact htz
     have e3 : (max 0 o.n).tmod 3 = (iz : Int) := by rw [Int.tmod_eq_emod_of_nonneg (by omega)]; exact hiz
     have e5 : (max 0 o.n).tmod (n : Int) = za := by rw [Int.tmod_eq_emod_of_nonneg (by omega)]; exact hza
     have hn0 : ¬ n = 0 := by have := HN8.out; omega
     obtain ⟨S, hS⟩ : ∃ S : ByteArray, S = ⟨(pText o).toArray⟩ := ⟨_, rfl⟩
     have HTX : Hid (∀ X, Calls Tryz.prog 15 #[.agg ([.int .i64 o.kind, .int .i64 o.n, .int .i64 o.m, .int .u8 o.fill, .slice As ms cs] : List Value).toArray] X fun e w' => e = .returned (.string S) ∧ Below X.heap.size X w') := hide (fun X => by rw [hS]; exact text_c o.kind o.n o.m o.fill hok.fill hok.n _ rfl X)
     have HBK : Hid (∀ X, Calls Tryz.prog 14 #[.int .i64 tz, .int .i64 iz, .string S] X (FreshP X (prts tz iz (pText o)))) := hide (fun X => rblock_c tz iz (pText o) S hS (by omega) (by omega) (pText_len o) X)
     have HP5 : Hid ((prts tz iz (pText o)).length ≤ 5) := hide (by rw [prts_len]; have h1 : (pText o).length < 400 := (by unfold pText; rw [jText_len]; omega); unfold pagesN; omega)
     have HLT := hide hlt
     have HK2 : Hid (k ≤ 8) := hide (by have := HL8.out; have := hnb.out; omega)
     have hki : (k : Int) < (nb : Int) := by omega
     clear hj hlt hil hk hok hxs hox hsv hgl hx1 hx2 hx3 htz hiz hza hS
     go_wp2_with fail
     refine wp_region_held_drew (S := fun W => W.cell? ⟨gl, ol + k * 5 + 1, none⟩ = some (.int .i64 o.n) ∧ W.cell? ⟨gl, ol + k * 5 + 2, none⟩ = some (.int .i64 o.m) ∧ ∀ j v, ([.int .i64 o.kind, .int .i64 o.n, .int .i64 o.m, .int .u8 o.fill, .slice As ms cs] : List Value)[j]? = some v → W.cell? ⟨gl, ol + k * 5 + j, none⟩ = some v) (by kernel_rfl) (HC.out _ (HJ.out.step (below_drew _)).below) (fun hS0 => ?_)
     replace HJ := hide (HJ.out.step (below_drew _))
     refine tk 0 ?_
     refine tk 1 ?_
     refine tk 2 ?_
     refine tk 3 ?_
     refine tk 4 ?_
     refine tk 5 ?_
     refine tk 6 ?_
     refine tk 7 ?_
     refine tk 8 ?_
     refine tk 9 ?_
     refine tk 10 ?_
     refine tk 11 ?_
     refine tk 12 ?_
     refine tk 13 ?_
     refine tk 14 ?_
     refine tk 15 ?_
     refine tk 16 ?_
     refine ty 17 (.agg ([.int .i64 o.kind, .int .i64 o.n, .int .i64 o.m, .int .u8 o.fill, .slice As ms cs] : List Value).toArray) rfl (yieldsIf_load_mid rfl 42 (.tmp 85) rfl gl (ol + k * 5) rfl ([.int .i64 o.kind, .int .i64 o.n, .int .i64 o.m, .int .u8 o.fill, .slice As ms cs]) _ (fun w hw => hw.2.2) Tryz.underlying42 rfl (by kernel_rfl)) ?_
     refine tk 21 ?_
     refine tr1 18 fun K hK => ?_
     go_simp
     refine (HTX.out _).mono ?_
     rintro e w6 ⟨rfl, hb6⟩
     replace HJ := hide (HJ.out.step hb6)
     clear hb6
     refine hK.out _ _ (HC.out _ HJ.out.below) (fun hS19 => ?_)
     clear hK K
     try simp only [Act.put, qa, qb, qc, qd, qe, qf]
     refine tr1 19 fun K hK => ?_
     go_simp
     refine (HBK.out _).mono ?_
     rintro e w7 ⟨v7, rfl, hpl, hb7⟩
     obtain ⟨X, hX, hXk⟩ := hpl.blocks
     replace HJ := hide (HJ.out.setX hb7 X hX)
     have HXK := hide hXk
     have HXJ : Hid (∀ j ∈ X, j < w7.heap.size) := hide (fun j hj => (hX j hj).2)
     obtain ⟨Ap, mp, cp, rfl, hmp, hp1, hp2⟩ := hpl.formN
     have HMP := hmp
     clear hX hXk hpl hb7 hmp
     refine hK.out _ _ (HC.out _ HJ.out.below) (fun hS20 => ?_)
     clear hK K
     try simp only [Act.put, qa, qb, qc, qd, qe, qf]
     refine tk 20 ?_
     refine wpAnyH_done (by kernel_rfl) ?_ _
     clear hS0
     go_wp2_with fail
     obtain ⟨pg, hpg⟩ : ∃ x, prts tz iz (pText o) = x := ⟨_, rfl⟩
     rw [hpg] at HMP HXK HP5
     clear HBK HTX hpg e3 e4
     have HM5 : Hid (mp ≤ 5) := hide (by rw [HMP.out]; exact HP5.out)
     go_loopw [90] (fun v90 wr => ∃ q : Nat, v90 = .int .i64 q ∧ q ≤ mp ∧ Jd W n d bn bd bw (12 + 5 * k + q) X wr ∧ Away X w7 wr) (fun v90 _ => mp - (intOf v90).toNat)
     case atStart => exact ⟨0, rfl, Nat.zero_le _, HJ.out, Away.refl _ _⟩
     case round =>
      obtain ⟨q, rfl, hq, hj, haw⟩ := hrel
      clear HJ
      have HJ := hide hj
      have HAW := hide haw
      by_cases hlq : q < mp
      ·have hql : q < pg.length := by rw [← HMP.out]; exact hlq
       obtain ⟨gp, cp2, u, hv, _, _, hcell, hbs, _⟩ := (HXK.out wr haw).at_ q hql
       obtain rfl : Ap = some ⟨gp, 0, none⟩ := by injection hv
       obtain ⟨pq, hpq⟩ : ∃ x, pg.getD q [] = x := ⟨_, rfl⟩
       rw [hpq] at hbs
       clear hpq
       obtain ⟨A8, m8, c8, rfl, _, _, _⟩ := hbs.formN
       have HBS := hide hbs
       have HLQ := hide hlq
       have hqi : (q : Int) < (mp : Int) := by omega
       have HQ5 : Hid (q ≤ 5) := hide (by have := HM5.out; omega)
       have e6 : IntKind.i64.wrap (za + (q : Int)) = za + (q : Int) := by rw [IntKind.wrap_i64]; have := HZA.out; have := HN8.out; have := HM5.out; omega
       clear hj haw hbs hlq hql hv hq
       go_wp2_with fail
       refine wp_region_held_drew (S := fun W => W.cell? ⟨gl, ol + k * 5 + 1, none⟩ = some (.int .i64 o.n) ∧ ∀ j, W.cell? ⟨bn, j, none⟩ = ([.int .i64 n] : List Value)[j]?) (by kernel_rfl) (⟨(HC.out _ (HJ.out.step (below_drew _)).below).1, (HJ.out.step (below_drew _)).cells.1⟩) (fun hS0 => ?_)
       replace HJ := hide (HJ.out.step (below_drew _))
       replace HAW := hide (HAW.out.next (Touch.below (below_drew _) []) (by simp) HXJ.out)
       replace HBS := hide (HBS.out.step (below_drew _))
       refine tk 0 ?_
       refine tk 1 ?_
       refine tk 2 ?_
       refine tk 3 ?_
       refine tk 4 ?_
       refine tk 5 ?_
       refine tk 6 ?_
       refine tk 7 ?_
       refine tk 8 ?_
       refine tk 9 ?_
       refine tk 10 ?_
       refine tk 11 ?_
       refine tr1 12 fun K hK => ?_
       go_simp
       refine (jwrite_c W n d bn bd bw (12 + 5 * k + q) (by have := HN8.out; omega) (by have := HK2.out; have := HQ5.out; omega) (za + (q : Int)) (by have := HZA.out; have := HQ5.out; have := HN8.out; omega) _ _ _ X HJ.out HBS.out).mono ?_
       rintro e w8 ⟨rfl, hj, haw⟩
       replace HJ := hide hj
       replace HAW := hide (HAW.out.comp haw)
       clear hj haw
       refine hK.out _ _ (⟨(HC.out _ HJ.out.below).1, HJ.out.cells.1⟩) (fun hS12 => ?_)
       clear hK K
       try simp only [Act.put, qa, qb, qc, qd, qe, qf]
       refine wpAnyH_done (by kernel_rfl) ?_ _
       clear hS0
       go_wp2_with fail
       go_roundw
       case rel => exact ⟨q + 1, by go_num, HLQ.out, HJ.out, HAW.out⟩
       case measure => have := HLQ.out; simp [intOf]; omega
      ·obtain rfl : q = mp := by omega
       have HJ2 : Hid (Jd W n d bn bd bw (12 + 5 * (k + 1)) [] wr) := hide (hj.clear.mono (by have := HM5.out; omega))
       clear hj haw hlq hq HJ HAW HXK HXJ
       go_wp2_with fail
       go_roundw
       case rel => exact ⟨k + 1, by go_num, HLT.out, HJ2.out⟩
       case measure => have := HLT.out; simp [intOf]; omega
    ·obtain rfl : k = nb := by omega
     replace HJ : Hid (Jd W n d bn bd bw 60 [] wr) := hide (hj.mono (by have := HL8.out; have := hnb.out; omega))
     clear hj hlt hk
     obtain ⟨D, A, nn, c, B, m, bb, W0, hcs, hO, hZ⟩ := HJ.out
     have HSN := hide (hcs.sync (by have := HN8.out; omega) (by have := HN8.out; omega))
     have HCS := hide hcs
     obtain ⟨fz, hfz⟩ : ∃ z, D.fuse = z := ⟨_, rfl⟩
     obtain ⟨fl, hfl⟩ : ∃ z, D.failed = z := ⟨_, rfl⟩
     rw [hfz, hfl] at hO hZ
     have HO := hide hO
     have HZ := hide hZ
     clear hfz hfl hO hZ hcs HJ
     unfold rjc at HZ
     have k0 := HO.out.cells 1 rfl
     go_wp2_with fail
     refine (Zs.turn (P' := fun W G => Disk W d G (dSync D).1) (R := fun e => e = .returned (.int .i64 (dSync D).2)) HZ.out (fun G hG => (sync_c d G D _ hG).mono fun e w' h => turns_does h)).mono ?_
     rintro e w9 ⟨rfl, hz, hst⟩
     replace HO := hide (hst [(bn, 3, [.int .i64 n]), (bd, 26, [.pointer (some ⟨d, 0, none⟩)]), (bw, 32, [.slice A nn c, .slice B m bb, .int .i64 fz, .bool fl])] (by simp) HO.out)
     replace HZ : Hid (Zs (fun W G => Disk W d G (dSync D).1) _ _ _ _ _ _ _ _) := hide hz
     clear hst hz k0
     go_wp2_with (first
 | ((with_reducible refine at_load 32 (.tmp 8) ?_); refine wpList_load_own HO.out rfl 32 (.tmp 8) rfl 2 _ 0 4 _ _ ([.slice A nn c, .slice B m bb, .int .i64 fz, .bool fl]) _ rfl (take_all rfl) rfl Tryz.underlying32 rfl (by kernel_rfl) ?_))
     refine (Zs.refDE (keeps_dk d (dSync D).1) (r := dSync D) HZ.out (fun F hr hF => sync_r F _ D _ hr hF (by have := HCS.out.few; omega) (by rw [HCS.out.len]; have := HN8.out; omega))).mono ?_
     rintro e w10 ⟨A6, nn6, c6, B6, m6, bb6, rfl, hb10, hz⟩
     replace HO := hide (HO.out.step hb10)
     replace HZ := hide hz
     generalize (dSync D).1.fuse = fz6 at HZ ⊢
     generalize (dSync D).1.failed = fl6 at HZ ⊢
     unfold rjc at HZ
     clear hz hb10
     go_wp2_with (first
 | ((with_reducible refine at_store 32 (.tmp 8) ?_); refine wpList_store_own_t HO.out rfl 32 (.tmp 8) (.tmp 115) rfl 2 _ 0 _ _ ([.slice A6 nn6 c6, .slice B6 m6 bb6, .int .i64 fz6, .bool fl6]) ([.slice A6 nn6 c6, .slice B6 m6 bb6, .int .i64 fz6, .bool fl6]) rfl (.agg ([.slice A6 nn6 c6, .slice B6 m6 bb6, .int .i64 fz6, .bool fl6] : List Value).toArray) rfl rfl (fits_agg _) (by simp [zlw]) (splice_all rfl) (by kernel_rfl) rfl ?_; intro WA hO _ ht; replace HZ := hide (HZ.out.put (keeps_dk d (dSync D).1) (by simp) ht); replace HO := hide hO; clear hO ht; have k0 := HO.out.cells 1 rfl))
     obtain ⟨D', J, hjp, hs2, hk2⟩ := filled_open HSN.out.1 HSN.out.2.1 HSN.out.2.2
     have HJP := hide hjp
     have HK := hide hk2
     have HJO : Hid (jO (dSync D).1 = (D', J, 0)) := hide (by unfold jO; rw [hjp])
     clear hjp hs2 hk2
     refine (Zs.turnE (ι := Nat) (P' := fun g => fun W G => Jn W g d G D' J) (R := fun g e => e = .returned (.tuple #[.pointer (some ⟨g, 0, none⟩), .int .i64 0])) HZ.out (fun G hG => ?_)).mono ?_
     ·refine (jopen_c d G (dSync D).1 _ hG (by have := HSN.out.1.few; omega) (by have := HSN.out.1.top; omega)).mono fun e w' h => ?_
      rw [HJP.out] at h
      obtain ⟨g, he, ht⟩ := (turns_open h).1 rfl
      exact ⟨g, he, ht⟩
     rintro e w11 ⟨g, rfl, hz, hst⟩
     replace HO := hide (hst [(bn, 3, [.int .i64 n]), (bd, 26, [.pointer (some ⟨d, 0, none⟩)]), (bw, 32, [.slice A6 nn6 c6, .slice B6 m6 bb6, .int .i64 fz6, .bool fl6])] (by simp) HO.out)
     replace HZ : Hid (Zs (fun W G => Jn W g d G D' J) _ _ _ _ _ _ _ _) := hide hz
     clear hst hz k0
     go_wp2_with (first
 | ((with_reducible refine at_load 32 (.tmp 8) ?_); refine wpList_load_own HO.out rfl 32 (.tmp 8) rfl 2 _ 0 4 _ _ ([.slice A6 nn6 c6, .slice B6 m6 bb6, .int .i64 fz6, .bool fl6]) _ rfl (take_all rfl) rfl Tryz.underlying32 rfl (by kernel_rfl) ?_))
     refine (Zs.ref (r := (D', J, 0)) (keeps_jn g d D' J) HZ.out (fun F hr hF => by rw [← HJO.out]; exact ropen_c F _ _ _ (Rj.rf hr) hF HSN.out.1.sz (by have := HSN.out.1.few; omega) (by have := HSN.out.1.top; omega))).mono ?_
     rintro e w12 ⟨v', rfl, hb12, hz⟩
     replace HO := hide (HO.out.step hb12)
     (try dsimp only at hz)
     (try dsimp only)
     obtain ⟨A5, n5, c5, B5, m5, bb5, q5, rfl, Ar5, nr5, cr5, rfl, _⟩ := hz.form
     have HZ := hide hz
     clear hz hb12
     unfold rjc at HZ ⊢
     generalize D'.fuse = fz5 at HZ ⊢
     generalize D'.failed = fl5 at HZ ⊢
     generalize (J.turn : Int) = zt5 at HZ ⊢
     generalize J.state = st5 at HZ ⊢
     generalize (J.used : Int) = zu5 at HZ ⊢
     generalize J.broken = br5 at HZ ⊢
     go_wp2_with (first
 | ((with_reducible refine at_alloc 51 ?_); refine wpList_alloc_own_n HO.out rfl 51 rfl zjr rjr_info ?_; intro WA b17 hb hO hbel; replace HZ := hide (HZ.out.push (keeps_jn g d D' J) hb hbel (hO.has _ (List.mem_append_right _ (List.mem_singleton.2 rfl))).1.lt); replace HO := hide hO; clear hO hbel hb)
 | ((with_reducible refine at_store 51 (.tmp 17) ?_); refine wpList_store_own_t HO.out rfl 51 (.tmp 17) (.tmp 125) rfl 3 _ 0 _ _ ([.slice A5 n5 c5, .slice B5 m5 bb5, .int .i64 fz5, .bool fl5, .int .i64 zt5, sv st5, .slice Ar5 nr5 cr5, .int .i64 zu5, .bool br5]) ([.slice A5 n5 c5, .slice B5 m5 bb5, .int .i64 fz5, .bool fl5, .int .i64 zt5, sv st5, .slice Ar5 nr5 cr5, .int .i64 zu5, .bool br5]) rfl (.agg ([.slice A5 n5 c5, .slice B5 m5 bb5, .int .i64 fz5, .bool fl5, .int .i64 zt5, sv st5, .slice Ar5 nr5 cr5, .int .i64 zu5, .bool br5] : List Value).toArray) rfl rfl (fits_agg _) (by simp [zjr]) (splice_all rfl) (by kernel_rfl) rfl ?_; intro WA hO _ ht; replace HZ := hide (HZ.out.put (keeps_jn g d D' J) (by simp) ht); replace HO := hide hO; clear hO ht; have k0 := HO.out.cells 1 rfl)
 | ((with_reducible refine at_load 51 (.tmp 17) ?_); refine wpList_load_own HO.out rfl 51 (.tmp 17) rfl 3 _ 0 9 _ _ ([.slice A5 n5 c5, .slice B5 m5 bb5, .int .i64 fz5, .bool fl5, .int .i64 zt5, sv st5, .slice Ar5 nr5 cr5, .int .i64 zu5, .bool br5]) _ rfl (take_all rfl) rfl Tryz.underlying51 rfl (by kernel_rfl) ?_)
 | (refine wpList_build rfl 55 _ rfl ([(0, .pointer (some ⟨d, 0, none⟩)), (1, .pointer (some ⟨g, 0, none⟩)), (2, .agg ([.slice A5 n5 c5, .slice B5 m5 bb5, .int .i64 fz5, .bool fl5, .int .i64 zt5, sv st5, .slice Ar5 nr5 cr5, .int .i64 zu5, .bool br5] : List Value).toArray)]) (by first | (simp [Act.eval]; done) | (simp [Act.eval]; rfl)) ([.pointer (some ⟨d, 0, none⟩), .pointer (some ⟨g, 0, none⟩), .slice A5 n5 c5, .slice B5 m5 bb5, .int .i64 fz5, .bool fl5, .int .i64 zt5, sv st5, .slice Ar5 nr5 cr5, .int .i64 zu5, .bool br5]).toArray (built_w _ _ _ _ _ _ _ _ _ _ _ _ _ _ _ _ _) ?_)
 | ((with_reducible refine at_alloc 55 ?_); refine wpList_alloc_own_n HO.out rfl 55 rfl zlw world_info ?_; intro WA x hb hO hbel; replace HZ := hide (HZ.out.push (keeps_jn g d D' J) hb hbel (hO.has _ (List.mem_append_right _ (List.mem_singleton.2 rfl))).1.lt); replace HO := hide hO; clear hO hbel hb)
 | ((with_reducible refine at_store 55 (.tmp 19) ?_); refine wpList_store_own_t HO.out rfl 55 (.tmp 19) (.tmp 148) rfl 4 _ 0 _ _ ([.pointer (some ⟨d, 0, none⟩), .pointer (some ⟨g, 0, none⟩), .slice A5 n5 c5, .slice B5 m5 bb5, .int .i64 fz5, .bool fl5, .int .i64 zt5, sv st5, .slice Ar5 nr5 cr5, .int .i64 zu5, .bool br5]) ([.pointer (some ⟨d, 0, none⟩), .pointer (some ⟨g, 0, none⟩), .slice A5 n5 c5, .slice B5 m5 bb5, .int .i64 fz5, .bool fl5, .int .i64 zt5, sv st5, .slice Ar5 nr5 cr5, .int .i64 zu5, .bool br5]) rfl (.agg ([.pointer (some ⟨d, 0, none⟩), .pointer (some ⟨g, 0, none⟩), .slice A5 n5 c5, .slice B5 m5 bb5, .int .i64 fz5, .bool fl5, .int .i64 zt5, sv st5, .slice Ar5 nr5 cr5, .int .i64 zu5, .bool br5] : List Value).toArray) rfl rfl (fits_agg _) (by simp [zlw]) (splice_all rfl) (by kernel_rfl) rfl ?_; intro WA hO _ ht; replace HZ := hide (HZ.out.put (keeps_jn g d D' J) (by simp) ht); replace HO := hide hO; clear hO ht))
     have HW : Hid (Ww W WA [] x d g WA D' J) := hide (Ww.of (vc := [.slice A5 n5 c5, .slice B5 m5 bb5, .int .i64 fz5, .bool fl5, .int .i64 zt5, sv st5, .slice Ar5 nr5 cr5, .int .i64 zu5, .bool br5]) (HO.out.sub (by simp [wcs])) (HZ.out.rebase [] [x] (by simp) (fun j hj => .inl (by simp only [List.mem_singleton] at hj; subst hj; simp)) (by simp)))
     clear HO HZ k0
     refine (wsame_c W WA [] x d g D' J _ HW.out HK.out.sound (HK.out.jok (by omega))).mono ?_
     rintro e w13 ⟨rfl, hw⟩
     replace HW := hide hw
     clear hw
     go_wp2_with fail
     refine (wbytes_c W _ [] x d g D' J _ HW.out HK.out.sound).mono ?_
     rintro e w14 ⟨rfl, hw⟩
     replace HW := hide hw
     clear hw
     go_wp2_with fail
     go_ret
     exact ⟨rfl, HW.out.below⟩
end Go.Proofs.YtpadgkkeihhneaaGreat
