/- Open where a turn is found. -/
import Derived.Test.YtpadgkkeihhneaaGreatC38
namespace Go.Proofs.YtpadgkkeihhneaaGreat
set_option maxRecDepth 100000
set_option linter.unusedSimpArgs false
set_option linter.unusedVariables false
open List renaming getElem_toArray → qa, getElem_cons_zero → qb, getElem_cons_succ → qc, setIfInBounds_toArray → qd, set_cons_zero → qe, set_cons_succ → qf
open Go.ChangeShapes Go.WideShapes Go.ChangeAt Go.RowKit
theorem blks_len (D : DS) (t : Nat) : ∀ (f i a : Nat), (blks D t f i a).length ≤ f
 | 0, _, _ => Nat.le_refl _
 | f + 1, i, a => by
  unfold blks
  split
  ·simp
  ·rename_i s n _
   have := blks_len D t f (i + 1) (a + n)
   simp; omega
theorem JK.of_grownX {B g : Nat} {X : List Nat} {w w' : World} {row : Option Nat} (h : w.grownBy w' row) (hB : B ≤ w.heap.size) (hg : g < B) (hr : ∀ r, row = some r → B ≤ r ∨ r ∈ X) (hgr : some g ≠ row) : JK B g X w w' :=
 ⟨h.os, h.tape, h.output, h.size, fun k hk _ hx => h.block k (by omega) (fun e => by rcases hr k e.symm with h1 | h1; omega; exact hx h1), fun v hv => by
  have : w'.heap[g]? = w.heap[g]? := h.block g (by omega) hgr
  exact (World.cell?_of_block this).trans hv⟩
theorem JK.of_touch {B g : Nat} {X S : List Nat} {w w' : World} (h : Touch S w w') (hS : ∀ s ∈ S, s = g ∨ s ∈ X ∨ w.heap.size ≤ s) (hc : ∀ v, w.cell? ⟨g, 0, none⟩ = some v → w'.cell? ⟨g, 0, none⟩ = some v) (hB : B ≤ w.heap.size := by assumption) : JK B g X w w' :=
 ⟨h.os, h.tape, h.output, h.size, fun k hk h1 h2 => h.block k (by omega) (fun hm => by rcases hS k hm with e | e | e; exact h1 e; exact h2 e; omega), hc⟩
theorem find1_some (D : DS) (h : find1 D ≠ 0) : (blk D (find1 D) 0 0).isSome = true := by
 have h0 : find0 D ≠ 0 → (blk D (find0 D) 0 0).isSome = true := by
  intro h
  unfold find0 at h ⊢
  split
  ·rename_i h1; exact h1.2
  ·rename_i h1; rw [if_neg h1] at h; exact absurd rfl h
 unfold find1 at h ⊢
 split
 ·rename_i h1; exact h1.2
 ·rename_i h1; rw [if_neg h1] at h; exact h0 h
theorem blocks_ne (D : DS) (h : find1 D ≠ 0) : ∃ x l, blocks D (find1 D) = x :: l := by
 have hs := find1_some D h
 cases hb : blk D (find1 D) 0 0 with
 | none => rw [hb] at hs; cases hs
 | some x =>
  obtain ⟨s, n⟩ := x
  obtain ⟨f', _, h2⟩ := blks_some D (find1 D) (half D) 0 0 (by omega) (Nat.le_refl _) hb
  exact ⟨_, _, h2⟩
theorem blks_used (D : DS) (t : Nat) : ∀ (f i a : Nat), ∀ x ∈ blks D t f i a, x.2 ≤ half D
 | 0, _, _ => by intro x hx; cases hx
 | f + 1, i, a => by
  unfold blks
  split
  ·intro x hx; cases hx
  ·rename_i s n hb
   intro x hx
   rcases List.mem_cons.1 hx with rfl | hx
   ·exact (blk_pos hb).2
   ·exact blks_used D t f (i + 1) (a + n) x hx
theorem jFind_eq (D : DS) (h : find1 D ≠ 0) {x : Bk} {l : List Bk} (hb : blocks D (find1 D) = x :: l) : jFind D = ⟨find1 D, x.1, l.map (·.1), lastU (x :: l), false⟩ := by
 unfold jFind; rw [if_neg h, hb]; rfl
theorem jFind_ok (D : DS) (hs : D.Sz) : JOk D (jFind D) := by
 unfold jFind
 split
 ·exact ⟨Nat.zero_le _, Nat.zero_le _, Nat.zero_le _⟩
 ·refine ⟨?_, ?_, ?_⟩
  ·show find1 D ≤ _
   have := findK_lt D 2
   rw [findK_two] at this
   omega
  ·show ((blocks D (find1 D)).getLast?.map (·.2)).getD 0 ≤ _
   cases h : (blocks D (find1 D)).getLast? with
   | none => exact Nat.zero_le _
   | some x => exact blks_used D (find1 D) _ 0 0 x (List.mem_of_getLast? h)
  ·show ((blocks D (find1 D)).tail.map (·.1)).length ≤ _
   have := blks_len D (find1 D) (half D) 0 0
   have : half D ≤ 500000 := by have := hs.hi; unfold half; omega
   unfold blocks
   simp; omega
theorem JK.to {B g : Nat} {X : List Nat} {a b : World} (h : JK B g X a b) (hB : a.heap.size = B) : Touch (g :: X) a b :=
 ⟨h.os, h.tape, h.output, h.size, fun k hk hm => h.block k (by omega) (fun e => hm (by simp [e])) (fun e => hm (by simp [e]))⟩
/-- The activation behind the assignment. -/
abbrev AxOf (fx : Bk → Act) (x : Bk) (a' : Act) (W : World) : Prop := a' = fx x
/-- No panic. -/
def NoP (Q : Exit → Act → World → Prop) : Exit → Act → World → Prop
 | .panic _, _, _ => False
 | e, a, w => Q e a w
theorem NoP.out {Q : Exit → Act → World → Prop} {e : Exit} {a : Act} {w : World} (h : NoP Q e a w) : Q e a w := by
 cases e <;> first | exact h | exact h.elim
set_option maxHeartbeats 8000000 in
theorem open_ok (d : Nat) (F : List Nat) (D : DS) (w : World) (h : Disk w d F D) (hs : D.Sz) (hp : D.pend.length ≤ 60000) (h5 : D.pages.length ≤ 5000) (hf : D.failed = false) (h0 : find1 D ≠ 0) : Calls Tryz.prog 18 #[.pointer (some ⟨d, 0, none⟩)] w (OpenR w d F (jOpen D)) := by
 have HP := hide (pages_c d F D w h)
 have HD := hide h
 have HS := hide hs
 have HPD := hide hp
 have H5 := hide h5
 have HF := hide hf
 have HR : Hid (jOpen D = (jFind D, erase D (find1 D) (jFind D).used)) := hide (by unfold jOpen; rw [if_neg (by have := hs.lo; omega), if_neg (by simp [hf]), if_neg h0])
 have HFN : Hid (∀ X g, Jr X g d F D js0 (.slice none 0 0) → Calls Tryz.prog 46 #[.pointer (some ⟨g, 0, none⟩)] X fun e w' => e = .returned (.int .i64 0) ∧ Jr w' g d F D { js0 with turn := find1 D } (.slice none 0 0) ∧ Touch [g] X w') := hide (fun X g hX => find_c g d F D js0 _ X hX rfl hs hf)
 have h8 := hs.lo
 have HFT := hide (findK_lt D 2)
 rw [findK_two] at HFT
 obtain ⟨zt, hzt⟩ : ∃ z : Int, (find1 D : Int) = z := ⟨_, rfl⟩
 have HZT := hide hzt
 have hne : (zt == 0) = false := by simp; omega
 have hne2 : ¬ zt = 0 := by omega
 clear h hs hp h5 hf h0 hzt
 generalize hn : D.pages.length = n at HP h8
 clear hn
 refine (callsIn_wide (n := 3)).1 ?_
 refine callsIn_of_wp_marks Tryz.func18 rfl trivial ?_ rfl
 simp only [Tryz.ntmps18, List.size_toArray, List.length_cons, List.length_nil, Nat.reduceAdd, Nat.reduceSub, Array.replicate_succ, Array.replicate_zero, List.push_toArray, List.append_toArray, List.nil_append, List.cons_append]
 refine wpIn_wide.2 ?_
 refine wp_mono (Q := NoP (bodyPostM Fence.wide 3 Tryz.prog _ (OpenR w d F (jOpen D)))) ?_ (fun e a w h => NoP.out h)
 go_wp2_with fail
 refine HP.out.mono ?_
 rintro e w1 ⟨rfl, rfl⟩
 go_wp2_with fail
 have HB0 := hide ((below_alloc w (.cells #[.pointer (some ⟨d, 0, none⟩), .int .i64 0, .string ⟨#[]⟩, .slice none 0 0, .int .i64 0, .bool false] 89)))
 have HJ0 := hide (Jr.new HD.out rfl HB0.out (Blk.new w 89 #[.pointer (some ⟨d, 0, none⟩), .int .i64 0, .string ⟨#[]⟩, .slice none 0 0, .int .i64 0, .bool false]))
 have HV0 := hide (Blk.new (w.alloc (.cells #[.pointer (some ⟨d, 0, none⟩), .int .i64 0, .string ⟨#[]⟩, .slice none 0 0, .int .i64 0, .bool false] 89)) 46 #[.pointer (some ⟨w.heap.size, 0, none⟩)])
 have HB1 := hide (HB0.out.alloc HB0.out.size (.cells #[.pointer (some ⟨w.heap.size, 0, none⟩)] 46))
 have HJ1 := hide (HJ0.out.step (below_alloc _ (.cells #[.pointer (some ⟨w.heap.size, 0, none⟩)] 46)))
 refine (HFN.out _ _ HJ1.out).mono ?_
 rintro e w2 ⟨rfl, hj, ht⟩
 have HJ2 := hide hj
 have HV2 : Hid (Blk w2 (w.heap.size + 1) 46 #[.pointer (some ⟨w.heap.size, 0, none⟩)]) := hide (by have := HV0.out.touch ht (by simp); simpa using this)
 have HT2 : Hid (Below w.heap.size w w2) := hide (Below.touch HB1.out ht (by simp) HB1.out.size)
 have kv : w2.cell? ⟨w.heap.size + 1, 0, none⟩ = some (.pointer (some ⟨w.heap.size, 0, none⟩)) := HV2.out.cell 0
 have k1 : w2.cell? ⟨w.heap.size, 1, none⟩ = some (.int .i64 zt) := HJ2.out.k1 HZT.out
 have HW2 : Hid (w.heap.size + 2 ≤ w2.heap.size) := hide (by have := HV2.out.lt; omega)
 clear hj ht HB0 HJ0 HV0 HB1 HJ1 HFN HP
 have HEV := hide (Blk.new w2 27 #[.int .i64 0])
 go_wp2_with fail
 obtain ⟨g, hg⟩ : ∃ g, w.heap.size = g := ⟨_, rfl⟩
 obtain ⟨jv, hjv⟩ : ∃ j, w.heap.size + 1 = j := ⟨_, rfl⟩
 obtain ⟨ev, hev⟩ : ∃ j, w2.heap.size = j := ⟨_, rfl⟩
 obtain ⟨ex, hex⟩ : ∃ j, w2.heap.size + 1 = j := ⟨_, rfl⟩
 obtain ⟨tx, htx⟩ : ∃ j, w2.heap.size + 1 + 1 = j := ⟨_, rfl⟩
 have HL3 : Hid (Below w2.heap.size w2 (((w2.alloc (.cells #[.int .i64 0] 27)).alloc (.cells #[] 9)).alloc (.cells #[.slice (some ⟨w2.heap.size + 1, 0, none⟩) 0 0] 49))) := hide (((below_alloc _ _).alloc (by simp) _).alloc (by simp; omega) _)
 have HE3 : Hid (Blk (((w2.alloc (.cells #[.int .i64 0] 27)).alloc (.cells #[] 9)).alloc (.cells #[.slice (some ⟨w2.heap.size + 1, 0, none⟩) 0 0] 49)) w2.heap.size 27 #[.int .i64 0]) := hide ((HEV.out.alloc _).alloc _)
 have HX3 : Hid (Blk (((w2.alloc (.cells #[.int .i64 0] 27)).alloc (.cells #[] 9)).alloc (.cells #[.slice (some ⟨w2.heap.size + 1, 0, none⟩) 0 0] 49)) (w2.heap.size + 1) 9 #[]) := hide (by have := (Blk.new (w2.alloc (.cells #[.int .i64 0] 27)) 9 #[]).alloc (.cells #[.slice (some ⟨w2.heap.size + 1, 0, none⟩) 0 0] 49); simpa using this)
 have HTX3 : Hid (Blk (((w2.alloc (.cells #[.int .i64 0] 27)).alloc (.cells #[] 9)).alloc (.cells #[.slice (some ⟨w2.heap.size + 1, 0, none⟩) 0 0] 49)) (w2.heap.size + 1 + 1) 49 #[.slice (some ⟨w2.heap.size + 1, 0, none⟩) 0 0]) := hide (by have := Blk.new ((w2.alloc (.cells #[.int .i64 0] 27)).alloc (.cells #[] 9)) 49 #[.slice (some ⟨w2.heap.size + 1, 0, none⟩) 0 0]; simpa using this)
 have HSZ3 : Hid ((((w2.alloc (.cells #[.int .i64 0] 27)).alloc (.cells #[] 9)).alloc (.cells #[.slice (some ⟨w2.heap.size + 1, 0, none⟩) 0 0] 49)).heap.size = w2.heap.size + 3) := hide (by simp)
 clear HEV
 generalize (((w2.alloc (.cells #[.int .i64 0] 27)).alloc (.cells #[] 9)).alloc (.cells #[.slice (some ⟨w2.heap.size + 1, 0, none⟩) 0 0] 49)) = w3 at *
 have HJ3 := hide (HJ2.out.step HL3.out)
 have HV3 := hide (HV2.out.step HL3.out)
 have HB3 : Hid (Below w.heap.size w w3) := hide (HT2.out.trans (HL3.out.mono HT2.out.size))
 have HORD : Hid (g = w.heap.size ∧ jv = g + 1 ∧ g + 2 ≤ ev ∧ ex = ev + 1 ∧ tx = ev + 2 ∧ w3.heap.size = ev + 3) := hide (by have := HW2.out; have := HSZ3.out; omega)
 rw [hg] at HJ3 HV3 HV2 HJ2 k1 kv ⊢
 rw [htx] at HTX3 ⊢
 rw [hex] at HTX3 HX3 ⊢
 rw [hev] at HE3 ⊢
 rw [show g + 1 = jv by omega] at HV3 HV2 kv ⊢
 clear hg hjv hev hex htx kv k1 HV2 HJ2 HT2 HW2 HL3 HSZ3
 have kv3 : w3.drew.cell? ⟨jv, 0, none⟩ = some (.pointer (some ⟨g, 0, none⟩)) := HV3.out.cell 0
 have k13 : w3.drew.cell? ⟨g, 1, none⟩ = some (.int .i64 zt) := HJ3.out.k1 HZT.out
 have HBI : Hid (∀ W, Calls Tryz.prog 47 #[.pointer (some ⟨g, 0, none⟩), .int .i64 zt, .pointer (some ⟨ev, 0, none⟩)] W fun e w' => e = .returned (.func (.func 80) #[] #[.pointer (some ⟨W.heap.size, 0, none⟩), .pointer (some ⟨W.heap.size + 1, 0, none⟩), .pointer (some ⟨W.heap.size + 1 + 1, 0, none⟩)]) ∧
  w' = ((W.alloc (.cells #[.pointer (some ⟨g, 0, none⟩)] 46)).alloc (.cells #[.int .i64 zt] 3)).alloc (.cells #[.pointer (some ⟨ev, 0, none⟩)] 93)) := hide (fun W => by rw [← HZT.out]; exact callsIn_wide.1 (blocks_in 1 g ev (find1 D) W))
 have HB4 : Hid (Below w3.drew.heap.size w3.drew (((w3.drew.alloc (.cells #[.pointer (some ⟨g, 0, none⟩)] 46)).alloc (.cells #[.int .i64 zt] 3)).alloc (.cells #[.pointer (some ⟨ev, 0, none⟩)] 93))) := hide (((below_alloc _ _).alloc (by simp) _).alloc (by simp; omega) _)
 have kv4 := ((show Blk w3.drew jv _ _ from HV3.out).step HB4.out).cell 0
 have k14 := (HB4.out.cell (p := ⟨g, 1, none⟩) (by have := HORD.out; show g < w3.heap.size; omega)).trans k13
 refine wp_region_held_drew (S := fun W => W.cell? ⟨jv, 0, none⟩ = some (.pointer (some ⟨g, 0, none⟩)) ∧ W.cell? ⟨g, 1, none⟩ = some (.int .i64 zt)) (by kernel_rfl) (⟨kv3, k13⟩) (fun hS0 => ?_)
 refine tk 0 ?_
 refine tk 1 ?_
 refine tk 2 ?_
 refine tk 3 ?_
 refine tk 4 ?_
 refine tr1 5 fun K hK => ?_
 go_simp
 refine (HBI.out _).mono ?_
 rintro e w4 ⟨rfl, rfl⟩
 refine hK.out _ _ (⟨kv4, k14⟩) (fun hS5 => ?_)
 clear hK K
 try simp only [Act.put, qa, qb, qc, qd, qe, qf]
 refine wpAnyH_done (by kernel_rfl) ?_ _
 go_wp2_with fail
 have HD4 := hide (HJ3.out.hd.drew.step HB4.out)
 have HC1 := hide ((Blk.new w3.drew 46 #[.pointer (some ⟨g, 0, none⟩)]).alloc (.cells #[.int .i64 zt] 3) |>.alloc (.cells #[.pointer (some ⟨ev, 0, none⟩)] 93) |>.cell 0)
 have HC2 := hide ((Blk.new (w3.drew.alloc (.cells #[.pointer (some ⟨g, 0, none⟩)] 46)) 3 #[.int .i64 zt]).alloc (.cells #[.pointer (some ⟨ev, 0, none⟩)] 93) |>.cell 0)
 have HSZ4 : Hid ((((w3.drew.alloc (.cells #[.pointer (some ⟨g, 0, none⟩)] 46)).alloc (.cells #[.int .i64 zt] 3)).alloc (.cells #[.pointer (some ⟨ev, 0, none⟩)] 93)).heap.size = w3.heap.size + 3) := hide (by simp)
 have HBL4 : Hid (Below w3.heap.size w3 (((w3.drew.alloc (.cells #[.pointer (some ⟨g, 0, none⟩)] 46)).alloc (.cells #[.int .i64 zt] 3)).alloc (.cells #[.pointer (some ⟨ev, 0, none⟩)] 93))) := hide ((below_drew w3).trans HB4.out)
 clear kv3 k13 kv4 k14 HBI HB4
 rw [World.size_alloc] at HC2
 obtain ⟨bj, hbj⟩ : ∃ j, w3.drew.heap.size = j := ⟨_, rfl⟩
 rw [hbj] at HC1 HC2 ⊢
 generalize ((w3.drew.alloc (.cells #[.pointer (some ⟨g, 0, none⟩)] 46)).alloc (.cells #[.int .i64 zt] 3)).alloc (.cells #[.pointer (some ⟨ev, 0, none⟩)] 93) = w4 at *
 have HBJ : Hid (bj = ev + 3 ∧ w4.heap.size = ev + 6) := hide (by have := HORD.out; have := HSZ4.out; have : w3.heap.size = bj := hbj; omega)
 obtain ⟨B, hB⟩ : ∃ B, w4.heap.size = B := ⟨_, rfl⟩
 have HBB := hide hB
 have HJ4 := hide (HJ3.out.step HBL4.out)
 have HV4 := hide (HV3.out.step HBL4.out)
 have HE4 := hide (HE3.out.step HBL4.out)
 have HX4 := hide (HX3.out.step HBL4.out)
 have HTX4 := hide (HTX3.out.step HBL4.out)
 have HBW4 := hide (HB3.out.trans (HBL4.out.mono HB3.out.size))
 have HFL : Hid (∀ j ∈ F, j < w.heap.size) := hide HD.out.lt
 clear hbj hB HJ3 HV3 HE3 HX3 HTX3 HBL4 HSZ4
 have HI0 : Hid (OpI w4 B g tx ex d { js0 with turn := find1 D } [] w4) := hide ⟨JK.refl _ _ _ _, _, HTX4.out, .inr ⟨ex, 0, 0, #[], rfl, HX4.out, Nat.le_refl _, by unfold maxLen; omega, by simp, by simp⟩, (fun j hj => .inl (by injection hj with hj; exact hj.symm)), HJ4.out.blk⟩
 refine (wpIn_wide (n := 3)).1 ?_
 refine wpIn_rangeFunc_ownH (w0 := w4) rfl (by omega) (gf := 80) (lb := #[.pointer (some ⟨bj, 0, none⟩), .pointer (some ⟨bj + 1, 0, none⟩), .pointer (some ⟨bj + 1 + 1, 0, none⟩)]) rfl trivial (enters_of Tryz.func80 (by kernel_rfl) rfl)
  (encs := fun x : Bk => #[sv x.1, .int .i64 x.2]) (Kp := JK B g [tx, ex]) (S := fun xs => xs = blocks D (find1 D)) (Sp := fun _ => True) (N := (blocks D (find1 D)).length)
  (fun l J Jx W hW hJ hJx hY h0 => blk1_in _ (by omega) l bj (bj + 1) (bj + 1 + 1) B g d [tx, ex] F D (find1 D) (by have := HFT.out; omega) HS.out HF.out J Jx W (HD4.out.step hW)
   (fun j hj => by have := HFL.out j hj; have := HORD.out; have := HBJ.out; have := HBB.out; refine ⟨by omega, by omega, by simp; omega⟩)
   (by have := HORD.out; have := HBJ.out; have := HBB.out; refine ⟨by omega, by omega, by simp; omega⟩) (by have := HORD.out; have := HBJ.out; have := HBB.out; refine ⟨by omega, by omega, by simp; omega⟩)
   (by have := HORD.out; have := HBJ.out; have := HBB.out; omega) (by have := hW.size; have := HBB.out; omega)
   ((hW.cell (p := ⟨bj, 0, none⟩) (by have := HBJ.out; show bj < _; omega)).trans HC1.out) (by rw [HZT.out]; exact (hW.cell (p := ⟨bj + 1, 0, none⟩) (by have := HBJ.out; show bj + 1 < _; omega)).trans HC2.out) hJ hY h0)
  JK.trans (fun W l o o' hl h1 h2 h3 => JK.of_grown (grownBy_putObj' W l o') (by have := (Array.getElem?_eq_some_iff.1 h1).1; have := HBB.out; omega) (by have := HORD.out; have := HBJ.out; have := HBB.out; omega) (fun r e => by injection e with e; have := HBB.out; omega)) (Below.refl _ _) (fun _ => rfl)
  (OpI w4 B g tx ex d { js0 with turn := find1 D })
  (fun _ _ _ => False) (by rw [HBB.out]; exact opI_own HBB.out (by have := HORD.out; have := HBJ.out; have := HBB.out; omega)) (fun _ _ _ _ _ hs _ _ => hs) HI0.out
  (AxOf (fun x : Bk => { tmps := #[Value.pointer (some ⟨d, 0, none⟩), undef, Value.pointer none, Value.int IntKind.i64 0, Value.pointer (some ⟨jv, 0, none⟩), Value.int IntKind.i64 0, Value.pointer (some ⟨ev, 0, none⟩), Value.pointer (some ⟨tx, 0, none⟩), sv x.1, Value.int IntKind.i64 (x.2 : Int), undef, Value.pointer (some ⟨d, 0, none⟩), Value.int IntKind.i64 (n : Int), Value.bool (decide ((n : Int) < 8)), Value.pointer (some ⟨d, 0, none⟩), Value.agg #[Value.pointer (some ⟨d, 0, none⟩), Value.int IntKind.i64 0, Value.string ⟨#[]⟩, Value.slice none 0 0, Value.int IntKind.i64 0, Value.bool false], Value.pointer (some ⟨g, 0, none⟩), Value.pointer (some ⟨g, 0, none⟩), Value.int IntKind.i64 0, Value.int IntKind.i64 0, Value.bool false, undef, Value.pointer (some ⟨g, 0, none⟩), Value.pointer (some ⟨g, 0, none⟩), Value.pointer (some ⟨g, 1, none⟩), Value.int IntKind.i64 zt, Value.bool false, undef, Value.slice (some ⟨ex, 0, none⟩) 0 0, Value.pointer (some ⟨g, 0, none⟩), Value.pointer (some ⟨g, 0, none⟩), Value.pointer (some ⟨g, 0, none⟩), Value.pointer (some ⟨g, 1, none⟩), Value.int IntKind.i64 zt, Value.func (Fn.func 80) #[] #[Value.pointer (some ⟨bj, 0, none⟩), Value.pointer (some ⟨bj + 1, 0, none⟩), Value.pointer (some ⟨bj + 1 + 1, 0, none⟩)], sv x.1, Value.int IntKind.i64 (x.2 : Int), undef, undef, undef, undef, undef, undef, undef, undef, undef, undef, undef, undef, undef, undef, undef, undef, undef, undef, undef, undef, undef, undef, undef, undef, undef, undef, undef, undef], defers := [] })) ?hAx ?assign ?body ?done ?stop
 case assign =>
  rintro l pre x W K hI hK
  have HK := hide hK
  have HI := hide hI
  clear hK hI
  gi_wp2_with fail
  rw [Oper.semAt_eq _ _ _ (by intro c h; cases h)]
  go_simp
  gi_wp2_with fail
  exact HK.out _ _ (KeepsFrom.refl _ _) (JK.refl _ _ _ _) HI.out rfl
 case hAx => exact fun x a' s W W' row h _ _ => h
 case stop =>
  rintro D0 c pre W hD _ h hK
  exact h.elim
 case body =>
  rintro l pre x a' W hl ⟨r, hr⟩ hI ha hlen
  obtain ⟨s, m⟩ := x
  obtain ⟨hk, v, h1, h2, h3, h4⟩ := hI
  obtain ⟨A, n, c, rfl, hn, _, _⟩ := h2.formN
  have HORD2 := hide (And.intro HORD.out (And.intro HBJ.out HBB.out))
  have HGB : Hid (g < B) := hide (by have := HORD.out; have := HBJ.out; have := HBB.out; omega)
  have HTB2 : Hid (tx < B) := hide (by have := HORD.out; have := HBJ.out; have := HBB.out; omega)
  have HTG : Hid (tx ≠ g) := hide (by have := HORD.out; omega)
  have HTE : Hid (tx ≠ ex) := hide (by have := HORD.out; omega)
  have HGX : Hid (g ≠ ex) := hide (by have := HORD.out; omega)
  have HJVB : Hid (jv < B ∧ jv ≠ g ∧ jv ∉ [tx, ex]) := hide (by have := HORD.out; have := HBJ.out; have := HBB.out; refine ⟨by omega, by omega, by simp; omega⟩)
  have HWB : Hid (B ≤ W.heap.size) := hide (by have := hk.size; have := HBB.out; omega)
  have HOW := hide h3
  have HNE : Hid ((Value.slice A n c).ownBlock ≠ some tx ∧ (Value.slice A n c).ownBlock ≠ some g) := hide ⟨fun e => by rcases h3 _ e with h | h; exact HTE.out h; have := HTB2.out; omega, fun e => by rcases h3 _ e with h | h; exact HGX.out h; have := HGB.out; omega⟩
  have HLN : Hid ((pre.map (·.1)).length ≤ 1000000) := hide (by
   have := blks_len D (find1 D) (half D) 0 0
   have := half_le HS.out
   unfold blocks at hlen
   simp; omega)
  have HVW : Hid (W.cell? ⟨jv, 0, none⟩ = some (.pointer (some ⟨g, 0, none⟩))) := hide (hk.box HJVB.out.1 HJVB.out.2.1 HJVB.out.2.2 (HV4.out.cell 0))
  have HVA : Hid (W.drew.cell? ⟨jv, 0, none⟩ = some (.pointer (some ⟨g, 0, none⟩))) := HVW
  have HVB : Hid ((W.alloc (.cells #[sv s] 9)).drew.cell? ⟨jv, 0, none⟩ = some (.pointer (some ⟨g, 0, none⟩))) := hide (((below_ad W (.cells #[sv s] 9)).cell (p := ⟨jv, 0, none⟩) (by have := HJVB.out; have := HWB.out; show jv < _; omega)).trans HVW.out)
  have HTA : Hid (W.cell? ⟨tx, 0, none⟩ = some (Value.slice A n c)) := hide (h1.cell 0)
  have HTB : Hid ((W.alloc (.cells #[sv s] 9)).cell? ⟨tx, 0, none⟩ = some (Value.slice A n c)) := hide ((h1.alloc _).cell 0)
  have HTXA : Hid (Blk (W.alloc (.cells #[sv s] 9)).drew tx 49 #[Value.slice A n c]) := hide (h1.alloc _)
  have HGA : Hid (Blk (W.alloc (.cells #[sv s] 9)).drew g 89 (jcells d { ({ js0 with turn := find1 D } : JS) with used := lastU pre } (.slice none 0 0)).toArray) := hide (h4.alloc _)
  have HSB : Hid (Strs (W.alloc (.cells #[sv s] 9)).drew (Value.slice A n c) (pre.map (·.1))) := hide (h2.step (below_ad W _))
  have HCB : Hid ((W.alloc (.cells #[sv s] 9)).drew.cell? ⟨W.heap.size, 0, none⟩ = some (sv s)) := hide ((Blk.new W 9 #[sv s]).cell 0)
  have HKA : Hid (JK B g [tx, ex] W (W.alloc (.cells #[sv s] 9)).drew) := hide (JK.below ((below_ad W _).mono HWB.out) HGB.out)
  have HUA : Hid (Touch ([tx, g] ++ (Value.slice A n c).ownBlock.toList) W (W.alloc (.cells #[sv s] 9)).drew) := hide (Touch.below (below_ad W _) _)
  have HCS : Hid (∀ j, (Value.slice A n c).ownBlock = some j → ∃ cs t fr, W.heap[j]? = some (.cells cs t fr)) := hide (fun j hj => by
   rcases h2 with ⟨e, _⟩ | ⟨b, off, cap, cur, e, hb, _⟩
   ·rw [e] at hj; cases hj
   ·rw [e] at hj; injection hj with hj; subst hj; exact ⟨_, _, _, hb⟩)
  have HK0 := hide hk
  subst ha
  dsimp only
  clear hk h1 h2 h3 h4 hn hr hlen
  gi_wp2_with fail
  refine wpIn_region_round (S := fun X => X.cell? ⟨jv, 0, none⟩ = some (.pointer (some ⟨g, 0, none⟩))) (by kernel_rfl) (by rintro ⟨a, w, h⟩; exact h) (by intro j o c ho; rcases j with _ | _ | _ | _ | _ | _ | _ | _ | _ | _ | j <;> simp at ho <;> subst ho <;> simp) (HVA.out) (fun hS0 => ?_)
  refine tk 0 ?_
  refine tk 2 ?_
  refine tk 5 ?_
  refine' have_tail0 (fun tail => ?_) ?_
  rotate_left
  ·refine wpAnyH_ready (rs := [1, 3]) (by kernel_rfl) (by simp) ?_
   refine AllReadyH.cons rfl (fun K hK => ?_) (AllReadyH.cons rfl (fun K hK => ?_) AllReadyH.nil)
   ·have cq : W.cell? ⟨tx, 0, none⟩ = some (Value.slice A n c) := HTA.out
    go_simp
    refine hK.out _ _ (HVA.out) (fun _ => ?_)
    clear hK K
    try simp only [Act.put, qa, qb, qc, qd, qe, qf]
    refine tr1 3 fun K hK => ?_
    go_simp
    refine hK.out _ ((W.alloc (.cells #[sv s] 9)).drew) (HVB.out) (fun _ => ?_)
    clear hK K
    try simp only [Act.put, qa, qb, qc, qd, qe, qf]
    exact tail
   ·go_simp
    refine hK.out _ ((W.alloc (.cells #[sv s] 9)).drew) (HVB.out) (fun _ => ?_)
    clear hK K
    try simp only [Act.put, qa, qb, qc, qd, qe, qf]
    refine tr1 1 fun K hK => ?_
    have cq : (W.alloc (.cells #[sv s] 9)).cell? ⟨tx, 0, none⟩ = some (Value.slice A n c) := HTB.out
    go_simp
    refine hK.out _ _ (HVB.out) (fun _ => ?_)
    clear hK K
    try simp only [Act.put, qa, qb, qc, qd, qe, qf]
    exact tail
  generalize (W.alloc (.cells #[sv s] 9)).drew = WA at *
  clear HVA HTA HTB
  refine tr1 4 fun K hK => ?_
  refine step_append_strs rfl (.tmp 38) (.tmp 40) rfl HSB.out rfl rfl HCB.out HLN.out ?_
  intro v' w6 hst hgr hwh
  have htg := Touch.grown hgr
  have HT6 := hide (HTXA.out.touch htg (by simpa using HNE.out.1))
  have HG6 := hide (HGA.out.touch htg (by simpa using HNE.out.2))
  have HS6 := hide hst
  have HV6 := hide hst.one
  have HK6 := hide (HKA.out.trans (JK.of_grownX hgr (by have := HKA.out.size; have := HWB.out; omega) HGB.out (fun r e => (HOW.out r e).elim (fun h => .inr (by simp [h])) .inl) (fun e => HNE.out.2 e.symm)))
  have HU6 := hide (HUA.out.next htg (fun j hj => .inl (by simp at hj; simp [hj])))
  have HO6 : Hid (∀ j, v'.ownBlock = some j → j = ex ∨ B ≤ j) := hide (fun j hj => by rcases hwh with e | e; exact HOW.out j (e ▸ hj); rw [e] at hj; injection hj with hj; subst hj; exact .inr (Nat.le_trans HWB.out HKA.out.size))
  have HV7 := hide (HK6.out.box HJVB.out.1 HJVB.out.2.1 HJVB.out.2.2 HVW.out)
  clear hst hgr hwh htg HSB HCB HTXA HGA HKA HUA HVB
  refine hK.out _ _ (HV7.out) (fun _ => ?_)
  clear hK K
  try simp only [Act.put, qa, qb, qc, qd, qe, qf]
  refine tr1 6 fun K hK => ?_
  refine step_store_f rfl 49 (.tmp 7) (.tmp 41) rfl tx 0 49 [Value.slice A n c] v' rfl rfl HV6.out HT6.out (by simp) (by kernel_rfl) ?_
  intro w7 hb7 ht7 _
  have HT8 : Hid (Blk w7 tx 49 #[v']) := hide hb7
  have HG8 := hide (HG6.out.touch ht7 (by simp; exact HTG.out.symm))
  have HS8 := hide (HS6.out.touch ht7 (fun j hj => by simp; exact fun e => by subst e; rcases HO6.out _ hj with h | h; exact HTE.out h; have := HTB2.out; omega))
  have HK8 := hide (HK6.out.trans (JK.of_touch ht7 (by simp) (fun v hv => (World.cell?_of_block (ht7.block g (HG6.out.lt) (by simp; exact HTG.out.symm))).trans hv) (Nat.le_trans HWB.out HK6.out.size)))
  have HU8 := hide (HU6.out.next ht7 (fun j hj => .inl (by simp at hj; simp [hj])))
  have HV8 := hide (HK8.out.box HJVB.out.1 HJVB.out.2.1 HJVB.out.2.2 HVW.out)
  clear hb7 ht7 HT6 HG6 HS6 HK6 HU6 HV7
  refine hK.out _ _ (HV8.out) (fun hS0 => ?_)
  clear hK K
  try simp only [Act.put, qa, qb, qc, qd, qe, qf]
  refine tk 7 ?_
  refine tk 8 ?_
  refine tr1 9 fun K hK => ?_
  refine step_store_f rfl 3 (.tmp 44) (.tmp 42) rfl g 4 89 _ (.int .i64 (m : Int)) rfl rfl rfl HG8.out (by simp [jcells]) (by kernel_rfl) ?_
  intro w9 hb9 ht9 _
  have HT9 := hide (HT8.out.touch ht9 (by simp; exact HTG.out))
  have HG9 := hide hb9
  have HS9 := hide (HS8.out.touch ht9 (fun j hj => by simp; exact fun e => by subst e; rcases HO6.out _ hj with h | h; exact HGX.out h; have := HGB.out; omega))
  have HK9 := hide (HK8.out.trans (JK.of_touch ht9 (by simp) (fun v hv => by have h1 := HG8.out.cell 0; rw [h1] at hv; have h2 := hb9.cell 0; rw [h2]; exact hv) (Nat.le_trans HWB.out HK8.out.size)))
  have HU9 := hide (HU8.out.next ht9 (fun j hj => .inl (by simp at hj; simp [hj])))
  have HV9 := hide (HK9.out.box HJVB.out.1 HJVB.out.2.1 HJVB.out.2.2 HVW.out)
  clear hb9 ht9 HT8 HG8 HS8 HK8 HU8 HV8
  refine hK.out _ _ (HV9.out) (fun hS3 => ?_)
  clear hK K
  try simp only [Act.put, qa, qb, qc, qd, qe, qf]
  refine wpAnyH_done (by kernel_rfl) ?_ _
  refine ⟨keeps_touch HU9.out (fun j hj => ?_), HK9.out, HK0.out.trans HK9.out, v', HT9.out, by rw [List.map_append]; exact HS9.out, HO6.out, ?_⟩
  ·rcases List.mem_append.1 hj with hj | hj
   ·left; have := HTB2.out; have := HGB.out; simp at hj; rcases hj with rfl | rfl <;> (rw [HBB.out]; assumption)
   ·exact .inr (HCS.out j (by simpa using hj))
  ·rw [lastU_snoc]; exact HG9.out
 case done =>
  rintro D0 xs W hD hS hI hK
  obtain ⟨hk, v, h1, h2, h3, h4⟩ := hI
  obtain ⟨x0, l, hbl⟩ := blocks_ne D (by have := HZT.out; omega)
  obtain ⟨A, m, c, rfl, hn, _, hc⟩ := h2.formN
  have HJF := hide (jFind_eq D (by have := HZT.out; omega) hbl)
  have HOK := hide (jFind_ok D HS.out)
  rw [hS, hbl] at h2 h4
  have HM : Hid ((1 : Int) ≤ m) := hide (by have := hn.out; rw [hS, hbl] at this; simp at this; omega)
  obtain ⟨b, off, rfl, hb, hcell⟩ := h2.sl.at_ 0 (by simp)
  have hOWB : b = ex ∨ B ≤ b := h3 b rfl
  have HB9 : Hid (b = ex ∨ B ≤ b) := hide hOWB
  have HST : Hid (Strs W (.slice (if c = 1 then some ⟨b, off, none⟩ else (some (⟨b, off, none⟩ : Addr)).map (·.add 1)) (m - 1) (c - 1)) (l.map (·.1))) := hide h2.tail
  have hsl : ∀ X : World, (Instr.sliceAt 49 (.slice (some ⟨b, off, none⟩) m c) (some (.int .i64 1)) none none).run Tryz.prog X = .ok (.slice (if c = 1 then some ⟨b, off, none⟩ else (some (⟨b, off, none⟩ : Addr)).map (·.add 1)) (m - 1) (c - 1)) X := by
   intro X
   rw [run_sliceAt_slice (P := Tryz.prog) X 49 _ _ _ _ Tryz.underlying49, run_slice_l (P := Tryz.prog) X 49 _ m c Tryz.underlying49 .i64 1 (by omega) HM.out]
   rfl
  have how : ∀ j, (Value.slice (if c = 1 then some ⟨b, off, none⟩ else (some (⟨b, off, none⟩ : Addr)).map (·.add 1)) (m - 1) (c - 1)).ownBlock = some j → j = b := by
   intro j hj
   split at hj <;> (injection hj with hj; exact hj.symm)
  generalize (Value.slice (if c = 1 then some ⟨b, off, none⟩ else (some (⟨b, off, none⟩ : Addr)).map (·.add 1)) (m - 1) (c - 1)) = vt at *
  have HOW := hide how
  have HG : Hid (Blk W g 89 (jcells d { ({ js0 with turn := find1 D } : JS) with used := lastU (x0 :: l) } (.slice none 0 0)).toArray) := hide h4
  have HDW : Hid (Disk W d F D) := hide ((hk.hd HJ4.out.hd (fun j hj => by have := HFL.out j hj; have := HORD.out; have := HBJ.out; have := HBB.out; refine ⟨by omega, by omega, by simp; omega⟩)).2)
  have HKW := hide hk
  have HKD := hide hK
  have HDD : Hid (B ≤ D0) := hide (by have := HBB.out; omega)
  have cev : W.cell? ⟨ev, 0, none⟩ = some (.int .i64 0) := hk.box (by have := HORD.out; have := HBJ.out; have := HBB.out; omega) (by have := HORD.out; omega) (by have := HORD.out; simp; omega) (HE4.out.cell 0)
  have cjv : W.cell? ⟨jv, 0, none⟩ = some (.pointer (some ⟨g, 0, none⟩)) := hk.box (by have := HORD.out; have := HBJ.out; have := HBB.out; omega) (by have := HORD.out; omega) (by have := HORD.out; simp; omega) (HV4.out.cell 0)
  have ctx : W.cell? ⟨tx, 0, none⟩ = some (.slice (some ⟨b, off, none⟩) m c) := h1.cell 0
  have cel : W.cell? ⟨b, off, none⟩ = some (sv x0.1) := by simpa using hcell
  have HV : Hid (Blk W jv 46 #[.pointer (some ⟨g, 0, none⟩)]) := hide (HKW.out.to HBB.out |> fun t => HV4.out.touch t (by have := HORD.out; simp; omega))
  have HTX : Hid (Blk W tx 49 #[.slice (some ⟨b, off, none⟩) m c]) := hide h1
  have hm1 := HM.out
  have hm2 : 0 < m := by omega
  have HCE := hide cel
  have HBG : Hid (b ≠ g ∧ jv ≠ g ∧ tx ≠ g) := hide (by have := HORD.out; have := HBJ.out; have := HBB.out; have := HB9.out; omega)
  have HLTb : Hid (b < W.heap.size) := hide hb
  have HBD : Hid (b ≠ D0) := hide (by intro e; subst e; simp [World.cell?, hK] at cel)
  clear hk h1 h2 h3 h4 hn hc hcell hb hS hK hD how hOWB
  go_wp2_with fail
  refine wp_region_held_drew (S := fun X => (X.cell? ⟨jv, 0, none⟩ = some (.pointer (some ⟨g, 0, none⟩)) ∧ X.cell? ⟨tx, 0, none⟩ = some (.slice (some ⟨b, off, none⟩) m c)) ∧ X.cell? ⟨b, off, none⟩ = some (sv x0.1)) (by kernel_rfl) (⟨⟨cjv, ctx⟩, cel⟩) (fun hS0 => ?_)
  refine tk 0 ?_
  refine tk 1 ?_
  refine tk 2 ?_
  refine tk 3 ?_
  refine tk 4 ?_
  refine tk 5 ?_
  refine tk 6 ?_
  refine tk 7 ?_
  refine tk 8 ?_
  refine tr1 9 fun K hK => ?_
  refine step_store_f rfl 9 (.tmp 56) (.tmp 52) rfl g 2 89 _ (sv x0.1) rfl rfl rfl HG.out (by simp [jcells]) (by kernel_rfl) ?_
  intro w9 hb9 ht9 _
  have HG9 := hide hb9
  have HT9 : Hid (Touch [g] W w9) := hide ((Touch.below (below_drew W) [g]).trans ht9)
  have c19 : w9.cell? ⟨jv, 0, none⟩ = some (.pointer (some ⟨g, 0, none⟩)) := (HV.out.touch HT9.out (by have := HBG.out; simp; omega)).cell 0
  have c29 : w9.cell? ⟨tx, 0, none⟩ = some (.slice (some ⟨b, off, none⟩) m c) := (HTX.out.touch HT9.out (by have := HBG.out; simp; omega)).cell 0
  have c39 : w9.cell? ⟨b, off, none⟩ = some (sv x0.1) := (World.cell?_of_block (HT9.out.block b HLTb.out (by have := HBG.out; simp; omega))).trans HCE.out
  clear hb9 ht9
  refine hK.out _ _ (⟨⟨c19, c29⟩, c39⟩) (fun hS9 => ?_)
  clear hK K
  try simp only [Act.put, qa, qb, qc, qd, qe, qf]
  refine tk 10 ?_
  refine tk 11 ?_
  refine tr1 12 fun K hK => ?_
  refine step_store_f rfl 49 (.tmp 58) (.tmp 54) rfl g 3 89 _ vt rfl rfl HST.out.one HG9.out (by simp [jcells]) (by kernel_rfl) ?_
  intro w12 hb12 ht12 _
  have HG12 := hide hb12
  have HT12 : Hid (Touch [g] W w12) := hide (HT9.out.trans ht12)
  have c112 : w12.cell? ⟨jv, 0, none⟩ = some (.pointer (some ⟨g, 0, none⟩)) := (HV.out.touch HT12.out (by have := HBG.out; simp; omega)).cell 0
  have c212 : w12.cell? ⟨tx, 0, none⟩ = some (.slice (some ⟨b, off, none⟩) m c) := (HTX.out.touch HT12.out (by have := HBG.out; simp; omega)).cell 0
  have c312 : w12.cell? ⟨b, off, none⟩ = some (sv x0.1) := (World.cell?_of_block (HT12.out.block b HLTb.out (by have := HBG.out; simp; omega))).trans HCE.out
  clear hb12 ht12
  refine hK.out _ _ (⟨⟨c112, c212⟩, c312⟩) (fun hS12 => ?_)
  clear hK K
  try simp only [Act.put, qa, qb, qc, qd, qe, qf]
  refine wpAnyH_done (by kernel_rfl) ?_ _
  have HJR : Hid (Jr w12 g d F D (jFind D) vt) := hide (by
   rw [HJF.out]
   refine ⟨HG12.out, HST.out.touch HT12.out (fun j hj => by have := HOW.out j hj; have := HBG.out; simp; omega), fun hm => by have := HFL.out g hm; have := HORD.out; omega, fun j hj => ⟨fun hm => ?_, by have := HOW.out j hj; have := HBG.out; omega⟩, fun j hj => by have := HFL.out j hj; have := HT12.out.size; have := HG.out.lt; have := HORD.out; omega, HDW.out.touch HT12.out (fun j hj => by have := HFL.out j hj; have := HORD.out; simp; omega)⟩
   have := HFL.out j hm; have := HOW.out j hj; have := HORD.out; have := HBJ.out; have := HBB.out; have := HB9.out; omega)
  have HER : Hid (Calls Tryz.prog 48 #[.pointer (some ⟨g, 0, none⟩)] w12 (ErsR w12 g d F (erase D (find1 D) (jFind D).used) (jFind D) vt)) := hide (by
   have := erase_c g d F D (jFind D) vt w12 HJR.out HS.out HPD.out HOK.out HF.out H5.out
   rwa [show (jFind D).turn = find1 D by rw [HJF.out]] at this)
  have HV12 := hide (HV.out.touch HT12.out (by have := HBG.out; simp; omega))
  have HK12 : Hid (w12.heap[D0]? = some (.deferred (some []))) := hide (by rw [HT12.out.block D0 (Array.getElem?_eq_some_iff.1 HKD.out).1 (by have := HDD.out; have := HORD.out; have := HBJ.out; have := HBB.out; simp; omega)]; exact HKD.out)
  have cjv12 : w12.cell? ⟨jv, 0, none⟩ = some (.pointer (some ⟨g, 0, none⟩)) := HV12.out.cell 0
  clear cev cjv ctx cel hsl HV HKD
  go_wp2_with fail
  refine HER.out.mono ?_
  rintro e w13 ⟨rfl, F', hj, ht, hF'⟩
  have HJ13 := hide hj
  have HT13 := hide ht
  have HF13 := hide hF'
  have HK13 : Hid (w13.heap[D0]? = some (.deferred (some []))) := hide (by rw [ht.block D0 (Array.getElem?_eq_some_iff.1 HK12.out).1 (fun hm => by
   rcases List.mem_cons.1 hm with rfl | hm
   ·have := HDD.out; have := HORD.out; have := HBJ.out; have := HBB.out; omega
   ·have := HFL.out D0 hm; have := HDD.out; have := HORD.out; have := HBJ.out; have := HBB.out; omega)]; exact HK12.out)
  have cjv13 : w13.cell? ⟨jv, 0, none⟩ = some (.pointer (some ⟨g, 0, none⟩)) := (HV12.out.touch ht (fun hm => by
   rcases List.mem_cons.1 hm with e | hm
   ·have := HBG.out; omega
   ·have := HFL.out jv hm; have := HORD.out; omega)).cell 0
  have HTT : Hid (Touch F w w13) := hide ((((Touch.below HBW4.out F).next (HKW.out.to HBB.out) (fun t ht => .inr (by have := HORD.out; simp at ht; omega))).next HT12.out (fun t ht => .inr (by have := HORD.out; simp at ht; omega))).next ht (fun t ht => by
   rcases List.mem_cons.1 ht with e | e
   ·exact .inr (by have := HORD.out; omega)
   ·exact .inl e))
  have HSZ : Hid (B ≤ w12.heap.size ∧ w.heap.size ≤ B) := hide (by have := HT12.out.size; have := HKW.out.size; have := HBB.out; have := HORD.out; have := HBJ.out; omega)
  clear hj ht hF' cjv12 HER
  obtain ⟨zc, hzc⟩ : ∃ z : Int, (erase D (find1 D) (jFind D).used).2 = z := ⟨_, rfl⟩
  rw [hzc]
  have HZC := hide hzc
  clear hzc
  have hput := fun X : World => grownBy_putObj' X D0 (.deferred none)
  by_cases h0 : zc = 0
  ·subst h0
   go_wp2_with fail
   refine ⟨by simp, .inl ⟨_, _, rfl, run_takeDeferred HK13.out, ?_⟩⟩
   refine ⟨_, results_tmp2 rfl _ _ _, ?_⟩
   have HP := Touch.grown (hput w13)
   have hD0 : ∀ t ∈ (some D0).toList, B ≤ t := fun t ht => by
    have e : t = D0 := by simpa using ht
    have := HDD.out; omega
   have hnF : D0 ∉ F' := fun hm => by
    have h1 := (Array.getElem?_eq_some_iff.1 HK12.out).1
    rcases HF13.out D0 hm with e | e
    ·have := HFL.out D0 e; have := HDD.out; have := HSZ.out; omega
    ·omega
   have hdk := HJ13.out.disk.touch HP (fun j hj => by simp; exact fun e => hnF (e ▸ hj))
   refine ⟨F', HTT.out.next HP (fun t ht => .inr (by have := hD0 t ht; have := HSZ.out; omega)), fun j hj => (HF13.out j hj).imp id (fun h => by have := HSZ.out; omega), fun j hj => Nat.lt_of_lt_of_le (HJ13.out.lt j hj) HP.size, by rw [HR.out]; exact hdk, ?_⟩
   rw [HR.out]
   rw [if_pos HZC.out]
   refine ⟨g, vt, rfl, HJ13.out.touch HP (by simp; have := HDD.out; have := HORD.out; have := HBJ.out; have := HBB.out; omega) (fun j hj => ?_) (fun j hj => by simp; exact fun e => hnF (e ▸ hj)), by have := HORD.out; omega, fun j hj => ?_⟩
   ·have h1 := HOW.out j hj
    simp
    intro e
    exact HBD.out (h1.symm.trans e)
   ·have := HOW.out j hj; have := HB9.out; have := HORD.out; have := HSZ.out; have := HBJ.out; omega
  ·have hb : (zc == 0) = false := by simpa using h0
   go_wp2_with fail
   refine ⟨by simp, .inl ⟨_, _, rfl, run_takeDeferred HK13.out, ?_⟩⟩
   refine ⟨_, results_tmp2 rfl _ _ _, ?_⟩
   have HP := Touch.grown (hput w13)
   have hD0 : ∀ t ∈ (some D0).toList, B ≤ t := fun t ht => by
    have e : t = D0 := by simpa using ht
    have := HDD.out; omega
   have hnF : D0 ∉ F' := fun hm => by
    have h1 := (Array.getElem?_eq_some_iff.1 HK12.out).1
    rcases HF13.out D0 hm with e | e
    ·have := HFL.out D0 e; have := HDD.out; have := HSZ.out; omega
    ·omega
   have hdk := HJ13.out.disk.touch HP (fun j hj => by simp; exact fun e => hnF (e ▸ hj))
   refine ⟨F', HTT.out.next HP (fun t ht => .inr (by have := hD0 t ht; have := HSZ.out; omega)), fun j hj => (HF13.out j hj).imp id (fun h => by have := HSZ.out; omega), fun j hj => Nat.lt_of_lt_of_le (HJ13.out.lt j hj) HP.size, by rw [HR.out]; exact hdk, ?_⟩
   rw [HR.out]
   rw [if_neg (by rw [HZC.out]; exact h0)]
   show _ = Ending.returned (.tuple #[.pointer none, .int .i64 (erase D (find1 D) (jFind D).used).2])
   rw [HZC.out]
   first | done | rfl
theorem jopen_c (d : Nat) (F : List Nat) (D : DS) (w : World) (h : Disk w d F D) (hp : D.pend.length ≤ 60000) (h5 : D.pages.length ≤ 5000) : Calls Tryz.prog 18 #[.pointer (some ⟨d, 0, none⟩)] w (OpenR w d F (jOpen D)) := by
 by_cases h8 : D.pages.length < 8
 ·exact open_small d F D w h h8
 ·have hs : D.Sz := ⟨by omega, by omega, by omega⟩
  cases hf : D.failed with
  | true => exact open_failed d F D w h hs hf
  | false =>
   by_cases h0 : find1 D = 0
   ·exact open_empty d F D w h hs hf h0
   ·exact open_ok d F D w h hs hp h5 hf h0
end Go.Proofs.YtpadgkkeihhneaaGreat
