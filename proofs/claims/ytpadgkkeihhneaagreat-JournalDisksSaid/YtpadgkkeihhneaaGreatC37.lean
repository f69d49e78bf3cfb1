/- The reference's Open. -/
import Derived.Test.YtpadgkkeihhneaaGreatC31
import Derived.Test.YtpadgkkeihhneaaGreatC07
import Derived.Test.YtpadgkkeihhneaaGreatC36
namespace Go.Proofs.YtpadgkkeihhneaaGreat
set_option maxRecDepth 100000
set_option linter.unusedSimpArgs false
set_option linter.unusedVariables false
open List renaming getElem_toArray → qa, getElem_cons_zero → qb, getElem_cons_succ → qc, setIfInBounds_toArray → qd, set_cons_zero → qe, set_cons_succ → qf
open Go.ChangeShapes Go.WideShapes Go.ChangeAt Go.RowKit
/-- The block of a whole slice has just its type. -/
theorem row_type {w : World} {base : Nat} {e : TypeId} {size n : Nat} {v : Value} {cs : List Value} (h : w.ownsRow base e size v n cs) (g : Nat) (hg : v.ownBlock = some g) : ∃ cur, w.heap[g]? = some (.cells cur e (0, 0)) := by
 obtain ⟨hl, ⟨rfl, _⟩ | ⟨g', cap, cur, rfl, hb, hgg, r⟩⟩ := h
 ·cases hg
 ·injection hg with hg
  subst hg
  exact ⟨cur, hgg⟩
theorem rows_apart {w : World} {b1 b2 : Nat} {e1 e2 : TypeId} {s1 s2 n1 n2 : Nat} {v1 v2 : Value} {c1 c2 : List Value} (h1 : w.ownsRow b1 e1 s1 v1 n1 c1) (h2 : w.ownsRow b2 e2 s2 v2 n2 c2) (he : e1 ≠ e2) (g : Nat) (hg : v1.ownBlock = some g) : v2.ownBlock ≠ some g := by
 intro hg2
 obtain ⟨cu1, e1'⟩ := row_type h1 g hg
 obtain ⟨cu2, e2'⟩ := row_type h2 g hg2
 rw [e1'] at e2'
 injection e2' with e2'
 injection e2' with _ e2'
 exact he e2'
/-- A slice of so many pages of zeros. -/
def Pz (w : World) (base : Nat) (v : Value) (m : Nat) : Prop := ∃ vs : List Value, w.ownsRow base 35 1 v m vs ∧ ∀ u ∈ vs, Ow w base u (List.replicate 128 0)
theorem Pz.touch {S : List Nat} {w w' : World} {base : Nat} {v : Value} {m : Nat} (h : Pz w base v m) (k : Touch S w w') (hv : ∀ j, v.ownBlock = some j → j ∉ S) (hS : ∀ u, Ow w base u (List.replicate 128 0) → ∀ j, u.ownBlock = some j → j ∉ S) : Pz w' base v m := by
 obtain ⟨vs, h1, h2⟩ := h
 refine ⟨vs, ⟨h1.1, ?_⟩, fun u hu => (h2 u hu).touch k (hS u (h2 u hu))⟩
 rcases h1.2 with hn | ⟨g, cap, cur, rfl, hb, hgg, rest⟩
 ·exact .inl hn
 ·exact .inr ⟨g, cap, cur, rfl, hb, (k.block g (Array.getElem?_eq_some_iff.1 hgg).1 (hv g rfl)).trans hgg, rest⟩
theorem Pz.step {w w' : World} {base : Nat} {v : Value} {m : Nat} (h : Pz w base v m) (k : Below w.heap.size w w') : Pz w' base v m := h.touch (Touch.below k []) (by simp) (by simp)
theorem Pz.empty (w : World) : Pz (w.alloc (.cells #[] 35)) w.heap.size (.slice (some ⟨w.heap.size, 0, none⟩) 0 0) 0 := ⟨[], row_lit w w.heap.size 35 1 0 [] rfl (by unfold maxLen; omega) (Nat.le_refl _), by simp⟩
theorem Pz.mono {w : World} {base base' : Nat} {v : Value} {m : Nat} (h : Pz w base v m) (hb : base' ≤ base) : Pz w base' v m := by
 obtain ⟨vs, ⟨hl, h1⟩, h2⟩ := h
 refine ⟨vs, ⟨hl, ?_⟩, fun u hu => (h2 u hu).mono hb⟩
 rcases h1 with h1 | ⟨g, cap, cur, hv, hg, r⟩
 ·exact .inl h1
 ·exact .inr ⟨g, cap, cur, hv, Nat.le_trans hb hg, r⟩
theorem Pz.formN {w : World} {base : Nat} {v : Value} {m : Nat} (h : Pz w base v m) : ∃ A c, v = .slice A m c ∧ m ≤ c ∧ c ≤ 9223372036854775807 := by
 obtain ⟨vs, h1, _⟩ := h
 have h0 : Row w 35 1 v m vs := ⟨h1.1, by
  rcases h1.2 with hn | ⟨g, cap, cur, hv, hb, r⟩
  ·exact .inl hn
  ·exact .inr ⟨g, cap, cur, hv, Nat.zero_le _, r⟩⟩
 exact Row.form h0
theorem Pz.pl {w : World} {base : Nat} {v : Value} {m : Nat} (h : Pz w base v m) : Pl w base v (List.replicate m (List.replicate 128 0)) := by
 obtain ⟨vs, h1, h2⟩ := h
 have hl := h1.1
 refine ⟨vs, ⟨by simpa using hl, ?_⟩, fun j hj => (World.ownsRow.lt h1 j hj).1, fun i u p hu hp => ?_⟩
 ·rw [List.length_replicate]
  rcases h1.2 with hn | ⟨g, cap, cur, hv, hb, r⟩
  ·exact .inl hn
  ·exact .inr ⟨g, cap, cur, hv, Nat.zero_le _, r⟩
 ·have hu2 := h2 u (List.mem_of_getElem? hu)
  rw [List.getElem?_replicate] at hp
  split at hp
  ·injection hp with hp
   subst hp
   exact ⟨hu2.bs, fun j hj => ⟨(hu2.lt j hj).1, (hu2.lt j hj).2, rows_apart hu2 h1 (by decide) j hj⟩⟩
  ·cases hp
theorem wpList_append_z1 {ops : Array Oper} {rest : List Oper} {o : Oper} {a : Act} {w w0 : World} {Q : Exit → Act → World → Prop} (hgd : o.guard = none) (s x : Operand)
 (ho : o.op = .call { callee := .builtin .append, args := #[s, x], argTypes := #[22, 22] }) {base m : Nat} {v u : Value} (hw : w = w0.alloc (.cells #[u] 35)) (hs : a.eval s = v) (hv : Pz w0 base v m) (hu : Ow w0 base u (List.replicate 128 0)) (hb : base ≤ w0.heap.size)
 {g : Nat} (hvx : a.eval x = .slice (some ⟨g, 0, none⟩) 1 1) (hg : g = w0.heap.size) (hlen : m ≤ 1000000)
 (h : ∀ v' w', Pz w' base v' (m + 1) → Below base w0 w' → (∀ va l, Ns w0 base va l → Ns w' base va l) → wpList Tryz.prog ops Q rest (a.put o.dst v') w') : wpList Tryz.prog ops Q (o :: rest) a w := by
 obtain ⟨i0, hi0, hz0, hz1, hz2⟩ := info_parts info_sl
 subst hw hg
 obtain ⟨vs, h1, h2⟩ := hv
 have hlv := h1.1
 have hv2 : (w0.alloc (.cells #[u] 35)).ownsRow base 35 1 v m vs := World.ownsRow.alloc h1 _
 refine wpList_append_row hgd s x 22 ho base 0 35 i0 _ 1 24 Tryz.underlying22 hi0 hz0 hz1 hz2 rfl (by decide) (n := m) (m := 1) hs hv2 hvx (row_lit w0 0 35 1 1 [u] rfl (by unfold maxLen; omega) (Nat.zero_le _)) (by intro y hy; rw [List.mem_singleton.1 hy]; exact hu.bs.one) (by unfold maxLen; omega) (by omega) (by rw [World.size_alloc]; omega) ?_
 intro v' w' hr hg ho2
 have ht := Touch.grown hg
 have hk : ∀ y, Ow w0 base y (List.replicate 128 0) → Ow w' base y (List.replicate 128 0) := fun y hy => (hy.alloc _).touch ht (fun j hj hm => by
  have := rows_apart (World.ownsRow.alloc hy (.cells #[u] 35)) hv2 (by decide) j hj
  exact this (by simpa using hm))
 refine h v' w' ⟨vs ++ [u], hr, fun y hy => ?_⟩ ?_ ?_
 ·rcases List.mem_append.1 hy with hy | hy
  ·exact hk y (h2 y hy)
  ·rw [List.mem_singleton.1 hy]; exact hk u hu
 ·exact ((Below.refl base w0).alloc hb _).grown hg (by rw [World.size_alloc]; omega) (fun j hj => (World.ownsRow.lt h1 j hj).1)
 ·intro va l hn
  have hn2 : Ns (w0.alloc (.cells #[u] 35)) base va l := World.ownsRow.alloc hn _
  exact hn2.touch ht (fun j hj hm => by
   have := rows_apart hn2 hv2 (by decide) j hj
   exact this (by simpa using hm))
/-- One more number; pages of zeros stay. -/
theorem Pz.append {w w' : World} {base m : Nat} {va v : Value} {l : List Nat} (h : Pz w base v m) (hn : Ns w base va l) (ht : Touch va.ownBlock.toList w w') : Pz w' base v m := by
 obtain ⟨vs, h1, h2⟩ := h
 have hm : ∀ j, j ∈ va.ownBlock.toList → va.ownBlock = some j := fun j hj => by simpa using hj
 exact Pz.touch ⟨vs, h1, h2⟩ ht (fun j hj hj2 => rows_apart h1 hn (by decide) j hj (hm j hj2)) (fun u hu j hj hj2 => rows_apart hu hn (by decide) j hj (hm j hj2))
/-! ### What the loops compute -/
def partTurn (D : DS) (t : Nat) (k : Nat) : Bool := match prtOf (content D (first D t + k)) with
 | some x => x.turn == t
 | none => false
def staleTo (D : DS) (t u k : Nat) : Bool := (List.range (k - u)).any fun i => partTurn D t (u + i)
theorem stale_to (D : DS) (t u : Nat) : stale D t u = staleTo D t u (half D) := by
 unfold stale staleTo partTurn
 congr 1
 funext k
 rw [Nat.add_assoc]
 cases prtOf (content D (first D t + (u + k))) <;> rfl
theorem staleTo_next (D : DS) (t u k : Nat) (h : u ≤ k) : staleTo D t u (k + 1) = (staleTo D t u k || partTurn D t k) := by
 unfold staleTo
 rw [show k + 1 - u = (k - u) + 1 by omega, List.range_succ, List.any_append]
 simp only [List.any_cons, List.any_nil, Bool.or_false]
 rw [show u + (k - u) = k by omega]
def dirtyTo (D : DS) (t u k : Nat) : List Nat := ((List.range (k - u)).map (first D t + u + ·)).filter fun n => content D n != List.replicate 128 0
theorem dirtyTo_next (D : DS) (t u k : Nat) (h : u ≤ k) : dirtyTo D t u (k + 1) = dirtyTo D t u k ++ (if content D (first D t + k) = List.replicate 128 0 then [] else [first D t + k]) := by
 unfold dirtyTo
 rw [show k + 1 - u = (k - u) + 1 by omega, List.range_succ, List.map_append, List.filter_append]
 congr 1
 simp only [List.map_cons, List.map_nil]
 rw [show first D t + u + (k - u) = first D t + k by omega]
 generalize List.replicate 128 (0 : UInt8) = z
 by_cases hc : content D (first D t + k) = z
 ·rw [if_pos hc]; simp [hc]
 ·rw [if_neg hc]; simp [hc]
theorem dirtyTo_len (D : DS) (t u k : Nat) : (dirtyTo D t u k).length ≤ k := by
 unfold dirtyTo
 refine Nat.le_trans (List.length_filter_le _ _) ?_
 rw [List.length_map, List.length_range]; omega
theorem part_turn (D : DS) (t k : Nat) (y : Prt) (hy : prtOk (content D (first D t + k)) = true → y = prtRead (content D (first D t + k))) : partTurn D t k = (prtOk (content D (first D t + k)) && (y.turn == t)) := by
 unfold partTurn prtOf
 cases hp : prtOk (content D (first D t + k)) with
 | false => rfl
 | true => rw [hy hp]; rfl
def jO (D : DS) : DS × JS × Int := ((jOpen D).2.1, (jOpen D).1, (jOpen D).2.2)
set_option maxHeartbeats 16000000 in
theorem ropen_c (F : List Nat) (v : Value) (D : DS) (w : World) (h : Rf w F v D) (hF : ∀ j ∈ F, j < w.heap.size) (hs : D.Sz) (hp : D.pend.length ≤ 60000) (h5 : D.pages.length ≤ 5000) :
 Calls Tryz.prog 19 #[v] w (GivesJ w F (jO D)) := by
 obtain ⟨A, n, c, B, m, b, vs, xs, rfl, hk⟩ := h.form
 have hn8 : D.pages.length = n := by have := hk.dur.2; rcases this with ⟨e, h0⟩ | ⟨g, cap, cur, e, _⟩ <;> (injection e with e1 e2 e3; omega)
 have n8 : 8 ≤ n := by have := hs.lo; omega
 have n5 : n ≤ 5000 := by omega
 have HR0 := hide h
 have HF := hide hF
 cases hf : D.failed with
 | true =>
  have HJ : Hid (jO D = (D, js0, 10)) := hide (by unfold jO jOpen; rw [if_neg (by have := hs.lo; omega), if_pos hf])
  unfold rv at HR0 ⊢
  have HFZ := hide hf
  generalize hfz : D.fuse = fz at *
  rw [hf] at HR0 ⊢
  clear h hk hF hs hp h5 hn8 hf
  have HO := hide (Own.nil w [] (by simp))
  go_enter Tryz.func19, Tryz.ntmps19
  go_wp2_with (first
   | ((with_reducible refine at_box 32 (.tmp 0) ?_); refine wpList_box_own HO.out rfl 32 (.tmp 0) rfl ([.slice A n c, .slice B m b, .int .i64 fz, .bool true]) rfl ?_; intro WA b1 hO; replace HO := hide hO; clear hO)
   | (((with_reducible refine at_alloc 51 ?_); refine wpList_alloc_own HO.out rfl 51 rfl (zjr) rjr_info ?_; intro WA b2 hO; replace HO := hide hO; clear hO; have k1 := HO.out.cells 0 rfl; refine Hid.out ?_)))
  refine hide ?_
  go_wp2_with (first
 | ((with_reducible refine at_load 32 (.tmp 1) ?_); refine wpList_load_own HO.out rfl 32 (.tmp 1) rfl 0 _ 0 4 _ _ ([.slice A n c, .slice B m b, .int .i64 fz, .bool true]) _ rfl (take_all rfl) rfl Tryz.underlying32 rfl rdisk_size ?_)
 | (refine wpList_build rfl 51 _ rfl ([(0, .agg ([.slice A n c, .slice B m b, .int .i64 fz, .bool true] : List Value).toArray)]) (by first | (simp [Act.eval]; done) | (simp [Act.eval]; rfl)) (([.slice A n c, .slice B m b, .int .i64 fz, .bool true, .int .i64 0, .string ⟨#[]⟩, .slice none 0 0, .int .i64 0, .bool false] : List Value)).toArray (built_j0 _ _ _ _ _ _ fz true) ?_)
 | ((with_reducible refine at_store 51 (.tmp 2) ?_); refine wpList_store_own HO.out rfl 51 (.tmp 2) (.tmp 26) rfl 1 _ 0 _ _ ([.slice A n c, .slice B m b, .int .i64 fz, .bool true, .int .i64 0, .string ⟨#[]⟩, .slice none 0 0, .int .i64 0, .bool false]) ([.slice A n c, .slice B m b, .int .i64 fz, .bool true, .int .i64 0, .string ⟨#[]⟩, .slice none 0 0, .int .i64 0, .bool false]) rfl (.agg ([.slice A n c, .slice B m b, .int .i64 fz, .bool true, .int .i64 0, .string ⟨#[]⟩, .slice none 0 0, .int .i64 0, .bool false]).toArray) rfl rfl (fits_agg _) (by simp [zjr]) (splice_all rfl) rjr_size rfl ?_; intro WA hO; replace HO := hide hO; clear hO))
  refine bodyPost_ret (v := .tuple #[.agg ([.slice A n c, .slice B m b, .int .i64 fz, .bool true, .int .i64 0, .string ⟨#[]⟩, .slice none 0 0, .int .i64 0, .bool false] : List Value).toArray, .int .i64 10]) (results_row_tmp rfl _ _ b2 51 ([.slice A n c, .slice B m b, .int .i64 fz, .bool true, .int .i64 0, .string ⟨#[]⟩, .slice none 0 0, .int .i64 0, .bool false] : List Value).toArray (0, 0) _ _ rfl rfl (HO.out.blk 1 rfl) Tryz.underlying51 rfl rjr_size) rfl ?_
  refine ⟨_, by rw [HJ.out], ?_, HO.out.below⟩
  rw [HJ.out]
  exact ⟨A, n, c, B, m, b, _, by dsimp only; rw [hfz, HFZ.out]; rfl, by unfold rv; rw [hfz, HFZ.out]; exact HR0.out.step HO.out.below, Rs.nil _ _, fun j hj => by cases hj⟩
 | false =>
  have HJO : Hid (jO D = if (jFind D).turn = 0 then (D, jFind D, 0) else ((erase D (jFind D).turn (jFind D).used).1, jFind D, (erase D (jFind D).turn (jFind D).used).2)) := hide (by
   unfold jO jOpen
   rw [if_neg (by have := hs.lo; omega), if_neg (by rw [hf]; simp)]
   have e : (jFind D).turn = find1 D := by rw [jFind_of, jOf_turn]
   rw [e]
   by_cases h0 : find1 D = 0
   ·rw [if_pos h0, if_pos h0]
    have : jFind D = js0 := by unfold jFind; rw [if_pos h0]
    rw [this]
   ·rw [if_neg h0, if_neg h0])
  have HBR : Hid ((jFind D).broken = false) := hide (by rw [jFind_of]; exact jOf_broken _ _)
  have ht40 : (jFind D).turn < 2 ^ 40 := by rw [jFind_of, jOf_turn, ← findK_two]; exact findK_lt D 2
  have huh : (jFind D).used ≤ half D := jFind_used
  have hh5 : half D ≤ 2500 := by unfold half; omega
  have HFN := hide (fun (X : World) (k : Below w.heap.size w X) => rfind_c F D A n c B m b D.fuse D.failed X (h.step k) hs h5 hf)
  have HHC := hide (fun (X : World) (k : Below w.heap.size w X) => rhalf_c F _ D X (h.step k) hs)
  have HFI := hide (fun (X : World) (k : Below w.heap.size w X) => rfirst_c F _ D (jFind D).turn (by omega) X (h.step k) hs)
  have HRD : Hid (∀ k, k < half D → ∀ X : World, Below w.heap.size w X → Calls Tryz.prog 51 #[rv (.slice A n c) (.slice B m b) D, .int .i64 ((first D (jFind D).turn : Int) + (k : Int))] X (RGot X (content D (first D (jFind D).turn + k), 0))) := hide (fun k hk X hX => by
   have hfh := first_hi D (jFind D).turn hs.lo
   have := rread_c F _ D ((first D (jFind D).turn + k : Nat) : Int) X (h.step hX) (by omega) hs.hi
   rw [dRead_ok hf _ (by omega)] at this
   exact this)
  have HCN : Hid (∀ k, k < half D → (content D (first D (jFind D).turn + k)).length = 128) := hide (fun k hk => content_ok h.ok _ (by have hfh := first_hi D (jFind D).turn hs.lo; omega))
  have HWR : Hid (∀ (X : World) (va vp : Value) (M : List Nat) (base : Nat) (l : List Nat), l.length ≤ 5000 → Below w.heap.size w X → (∀ j ∈ M, j < X.heap.size) → (∀ j ∈ M, w.heap.size ≤ j) → Ns X base va l → Pz X base vp l.length → Calls Tryz.prog 55 #[rv (.slice A n c) (.slice B m b) D, va, vp] X (GivesRE X (M ++ F) (dWrites D (l.map (·, List.replicate 128 0))))) := hide (fun X va vp M base l hl k hM hM2 ha hp2 => by
   refine rwrite_c (M ++ F) _ va vp D (l.map (·, List.replicate 128 0)) base X (h.plusR k M hM2) (fun j hm => ?_) ?_ ?_ (by simpa using hl) hp h5
   ·rcases List.mem_append.1 hm with hm | hm
    ·exact hM j hm
    ·exact Nat.lt_of_lt_of_le (HF.out j hm) k.size
   ·rw [List.map_map]
    have e : l.map ((fun x : Nat × List UInt8 => x.1) ∘ (·, List.replicate 128 0)) = l := by
     rw [show ((fun x : Nat × List UInt8 => x.1) ∘ (·, List.replicate 128 0)) = id from rfl, List.map_id]
    rw [e]; exact ha
   ·rw [List.map_map]
    have e : l.map ((fun x : Nat × List UInt8 => x.2) ∘ (·, List.replicate 128 0)) = List.replicate l.length (List.replicate 128 0) := by
     rw [show ((fun x : Nat × List UInt8 => x.2) ∘ (·, List.replicate 128 0)) = fun _ => List.replicate 128 0 from rfl, List.map_const']
    rw [e]; exact hp2.pl)
  clear h hk hF hs hp h5 hn8 vs xs
  unfold rv at HR0 HHC HFI HRD HWR ⊢
  rw [hf] at HFN HHC HFI HRD HWR HR0 ⊢
  have HFL := hide hf
  generalize HFZ : D.fuse = fz at *
  obtain ⟨J, hJ⟩ : ∃ J, J = jFind D := ⟨_, rfl⟩
  rw [← hJ] at HJO HBR ht40 huh HFN HFI HRD HCN
  clear hJ hf
  have u0 : J.used ≤ half D := huh
  obtain ⟨zt, hzt⟩ : ∃ z : Int, (J.turn : Int) = z := ⟨_, rfl⟩
  obtain ⟨zu, hzu⟩ : ∃ z : Int, (J.used : Int) = z := ⟨_, rfl⟩
  obtain ⟨st, hst⟩ : ∃ z, J.state = z := ⟨_, rfl⟩
  obtain ⟨zh, hzh⟩ : ∃ z : Int, (half D : Int) = z := ⟨_, rfl⟩
  obtain ⟨zf, hzf⟩ : ∃ z : Int, (first D J.turn : Int) = z := ⟨_, rfl⟩
  have HZ := hide (And.intro hzt (And.intro hst (And.intro hzu (And.intro hzh hzf))))
  have t0 : 0 ≤ zt := by omega
  have tu0 : 0 ≤ zu := by omega
  have tuh : zu ≤ zh := by omega
  have th9 : zh ≤ 2500 := by omega
  have f0 : 0 ≤ zf := by omega
  have f9 : zf ≤ 5000 := by have := first_le2 D J.turn; omega
  have HUH := hide huh
  rw [hzh] at HHC
  rw [hzt, hzf] at HFI
  rw [hzf] at HRD
  unfold FindR at HFN
  rw [hzt, hst, hzu, HBR.out] at HFN
  clear hzt hzu hst hzh hzf huh ht40 hh5 u0
  have HO := hide (Own.nil w [] (by simp))
  go_enter Tryz.func19, Tryz.ntmps19
  go_wp2_with (first
   | ((with_reducible refine at_box 32 (.tmp 0) ?_); refine wpList_box_own HO.out rfl 32 (.tmp 0) rfl ([.slice A n c, .slice B m b, .int .i64 fz, .bool false]) rfl ?_; intro WA b1 hO; replace HO := hide hO; clear hO)
   | (((with_reducible refine at_alloc 51 ?_); refine wpList_alloc_own HO.out rfl 51 rfl (zjr) rjr_info ?_; intro WA b2 hO; replace HO := hide hO; clear hO; have k1 := HO.out.cells 0 rfl; refine Hid.out ?_)))
  refine hide ?_
  go_wp2_with (first
   | ((with_reducible refine at_load 32 (.tmp 1) ?_); refine wpList_load_own HO.out rfl 32 (.tmp 1) rfl 0 _ 0 4 _ _ ([.slice A n c, .slice B m b, .int .i64 fz, .bool false]) _ rfl (take_all rfl) rfl Tryz.underlying32 rfl rdisk_size ?_))
  refine (HFN.out _ HO.out.below).mono ?_
  rintro e w5 ⟨rw_, rfl, hrs, hb5⟩
  obtain ⟨Ar, nr, cr, rfl, _, _, _⟩ := hrs.formN
  have HBL : Hid (b1 < _ ∧ b2 < _) := hide (And.intro (HO.out.blk 0 rfl).lt (HO.out.blk 1 rfl).lt)
  have HW1 : Hid (w.heap.size ≤ b1) := hide (HO.out.new 0 rfl)
  have HRS := hide hrs
  replace HO := hide (HO.out.step hb5)
  clear hb5 hrs
  go_wp2_with (first
   | ((with_reducible refine at_alloc 51 ?_); refine wpList_alloc_own_n HO.out rfl 51 rfl zjr rjr_info ?_; intro WA b4 hb hO hbel; have HRB : Hid (∀ j, (Value.slice Ar nr cr).ownBlock = some j → b1 < j ∧ b2 < j ∧ j < b4) := hide (fun j hj => by have h1 := HRS.out.lt j hj; have h2 := HBL.out; omega); replace HRS := hide (HRS.out.step hbel); replace HO := hide hO; clear hO hbel hb)
   | ((with_reducible refine at_store 51 (.tmp 4) ?_); refine wpList_store_own_t HO.out rfl 51 (.tmp 4) (.tmp 28) rfl 2 _ 0 _ _ ([.slice A n c, .slice B m b, .int .i64 fz, .bool false, .int .i64 zt, sv st, .slice Ar nr cr, .int .i64 zu, .bool false]) ([.slice A n c, .slice B m b, .int .i64 fz, .bool false, .int .i64 zt, sv st, .slice Ar nr cr, .int .i64 zu, .bool false]) rfl (.agg ([.slice A n c, .slice B m b, .int .i64 fz, .bool false, .int .i64 zt, sv st, .slice Ar nr cr, .int .i64 zu, .bool false] : List Value).toArray) rfl rfl (fits_agg _) (by simp [zjr]) (splice_all rfl) rjr_size rfl ?_; intro WA hO _ ht; replace HRS := hide (HRS.out.touch ht (fun j hj hm => by simp at hm; have := HRB.out j hj; omega)); replace HO := hide hO; clear hO ht; have k4 := HO.out.cells 2 rfl; have k1 := HO.out.cells 0 rfl))
  replace HRS := hide (HRS.out.mono (Nat.zero_le _))
  go_loopw [5, 6] (fun v5 v6 wr => ∃ k : Nat, v6 = .int .i64 k ∧ v5 = .bool (staleTo D J.turn J.used k) ∧ J.used ≤ k ∧ k ≤ half D ∧ (J.turn = 0 → k = J.used) ∧ Own w [] [(b1, 32, [.slice A n c, .slice B m b, .int .i64 fz, .bool false]), (b2, 51, zjr), (b4, 51, [.slice A n c, .slice B m b, .int .i64 fz, .bool false, .int .i64 zt, sv st, .slice Ar nr cr, .int .i64 zu, .bool false])] wr ∧ Rs wr 0 (.slice Ar nr cr) J.records) (fun _ v6 _ => half D - (intOf v6).toNat)
  case atStart => exact ⟨J.used, by rw [HZ.out.2.2.1], by unfold staleTo; rw [Nat.sub_self]; rfl, Nat.le_refl _, HUH.out, fun _ => rfl, HO.out, HRS.out⟩
  case round =>
   clear HO HRS
   obtain ⟨k, rfl, rfl, hk1, hk2, hk3, hO, hrs⟩ := hrel
   have HO : Hid (Own w [] [(b1, 32, [.slice A n c, .slice B m b, .int .i64 fz, .bool false]), (b2, 51, zjr), (b4, 51, [.slice A n c, .slice B m b, .int .i64 fz, .bool false, .int .i64 zt, sv st, .slice Ar nr cr, .int .i64 zu, .bool false])] wr) := hide hO
   have HRS := hide hrs
   have HK := hide (And.intro hk1 (And.intro hk2 hk3))
   clear hO hrs hk1 hk2 hk3
   obtain ⟨so, hso⟩ : ∃ x, staleTo D J.turn J.used k = x := ⟨_, rfl⟩
   rw [hso]
   have k1 := HO.out.cells 0 rfl
   have k4 := HO.out.cells 2 rfl
   go_wp2_with (first
    | ((with_reducible refine at_load 32 (.tmp 1) ?_); refine wpList_load_own HO.out rfl 32 (.tmp 1) rfl 0 _ 0 4 _ _ ([.slice A n c, .slice B m b, .int .i64 fz, .bool false]) _ rfl (take_all rfl) rfl Tryz.underlying32 rfl rdisk_size ?_))
   refine (HHC.out _ HO.out.below).mono ?_
   rintro e wX ⟨rfl, hbh⟩
   replace HO := hide (HO.out.step hbh)
   replace HRS := hide (HRS.out.step hbh)
   clear hbh k1 k4
   have k1 := HO.out.cells 0 rfl
   have k4 := HO.out.cells 2 rfl
   by_cases hkz : (k : Int) < zh
   ·by_cases ht0 : zt = 0
    ·have HT0 : Hid (J.turn = 0) := hide (by have := HZ.out; omega)
     have hd0 : decide (0 < zt) = false := by simpa using (by omega : ¬ 0 < zt)
     have HX : Hid (jO D = (D, J, 0)) := hide (by rw [HJO.out, if_pos HT0.out])
     have hso2 : so = false := by rw [← hso, HK.out.2.2 HT0.out]; unfold staleTo; rw [Nat.sub_self]; rfl
     subst hso2
     clear hso
     go_wp2_with (first
      | ((with_reducible refine at_load 51 (.tmp 4) ?_); refine wpList_load_own HO.out rfl 51 (.tmp 4) rfl 2 _ 0 9 _ _ ([.slice A n c, .slice B m b, .int .i64 fz, .bool false, .int .i64 zt, sv st, .slice Ar nr cr, .int .i64 zu, .bool false]) _ rfl (take_all rfl) rfl Tryz.underlying51 rfl rjr_size ?_)
      | ((with_reducible refine at_store 51 (.tmp 2) ?_); refine wpList_store_own_t HO.out rfl 51 (.tmp 2) (.tmp 71) rfl 1 _ 0 _ _ ([.slice A n c, .slice B m b, .int .i64 fz, .bool false, .int .i64 zt, sv st, .slice Ar nr cr, .int .i64 zu, .bool false]) ([.slice A n c, .slice B m b, .int .i64 fz, .bool false, .int .i64 zt, sv st, .slice Ar nr cr, .int .i64 zu, .bool false]) rfl (.agg ([.slice A n c, .slice B m b, .int .i64 fz, .bool false, .int .i64 zt, sv st, .slice Ar nr cr, .int .i64 zu, .bool false] : List Value).toArray) rfl rfl (fits_agg _) (by simp [zjr]) (splice_all rfl) rjr_size rfl ?_; intro WA hO _ ht; replace HRS := hide (HRS.out.touch ht (fun j hj hm => by simp at hm; have := HRB.out j hj; omega)); replace HO := hide hO; clear hO ht))
     refine bodyPost_ret (v := .tuple #[.agg ([.slice A n c, .slice B m b, .int .i64 fz, .bool false, .int .i64 zt, sv st, .slice Ar nr cr, .int .i64 zu, .bool false] : List Value).toArray, .int .i64 0]) (results_row_tmp rfl _ _ b2 51 ([.slice A n c, .slice B m b, .int .i64 fz, .bool false, .int .i64 zt, sv st, .slice Ar nr cr, .int .i64 zu, .bool false] : List Value).toArray (0, 0) _ _ rfl rfl (HO.out.blk 1 rfl) Tryz.underlying51 rfl rjr_size) rfl ?_
     refine ⟨_, by rw [HX.out], ?_, HO.out.below⟩
     rw [HX.out]
     exact ⟨A, n, c, B, m, b, _, by dsimp only; rw [HFZ, HFL.out, HZ.out.1, HZ.out.2.1, HZ.out.2.2.1, HBR.out], by unfold rv; rw [HFZ, HFL.out]; exact HR0.out.step HO.out.below, HRS.out, fun j hj => ⟨(HRS.out.lt j hj).2, fun hm => by have := HF.out j hm; have := HRB.out j hj; have := HW1.out; omega⟩⟩
    ·have HTN : Hid (J.turn ≠ 0) := hide (by have := HZ.out; omega)
     have hd0 : decide (0 < zt) = true := by simpa using (by omega : 0 < zt)
     have HKH : Hid (k < half D) := hide (by have := HZ.out; omega)
     have HDR := hide (HRD.out k HKH.out)
     have hw2 : IntKind.i64.wrap (zf + (k : Int)) = zf + (k : Int) := IntWalk.i64_in _ (by omega)
     go_wp2_with fail
     refine wp_region_held_drew (S := fun W => (∀ j, W.cell? ⟨b1, j, none⟩ = ([.slice A n c, .slice B m b, .int .i64 fz, .bool false] : List Value)[j]?) ∧ (∀ j, W.cell? ⟨b4, j, none⟩ = ([.slice A n c, .slice B m b, .int .i64 fz, .bool false, .int .i64 zt, sv st, .slice Ar nr cr, .int .i64 zu, .bool false] : List Value)[j]?)) (by kernel_rfl) (⟨HO.out.drew.cells 0 rfl, HO.out.drew.cells 2 rfl⟩) (fun hS0 => ?_)
     replace HO := hide HO.out.drew
     replace HRS := hide (HRS.out.step (below_drew _))
     refine ty 0 (.agg ([.slice A n c, .slice B m b, .int .i64 fz, .bool false]).toArray) rfl (yieldsIf_load rfl 32 (.tmp 1) rfl b1 0 4 32 ([.slice A n c, .slice B m b, .int .i64 fz, .bool false]) ([.slice A n c, .slice B m b, .int .i64 fz, .bool false]) _ (fun w hw => hw.1) (take_all rfl) rfl Tryz.underlying32 rfl rdisk_size) ?_
     refine ty 1 (.agg ([.slice A n c, .slice B m b, .int .i64 fz, .bool false]).toArray) rfl (yieldsIf_load rfl 32 (.tmp 1) rfl b1 0 4 32 ([.slice A n c, .slice B m b, .int .i64 fz, .bool false]) ([.slice A n c, .slice B m b, .int .i64 fz, .bool false]) _ (fun w hw => hw.1) (take_all rfl) rfl Tryz.underlying32 rfl rdisk_size) ?_
     refine tk 2 ?_
     refine tk 3 ?_
     refine tk 5 ?_
     refine tr1 4 fun K hK => ?_
     go_simp
     refine (HFI.out _ HO.out.below).mono ?_
     rintro e w5 ⟨rfl, hb5⟩
     replace HO := hide (HO.out.step hb5)
     replace HRS := hide (HRS.out.step hb5)
     clear hb5
     refine hK.out _ _ (⟨HO.out.cells 0 rfl, HO.out.cells 2 rfl⟩) (fun hS5 => ?_)
     clear hK K
     try simp only [Act.put, qa, qb, qc, qd, qe, qf]
     refine tk 6 ?_
     refine tr1 7 fun K hK => ?_
     go_simp
     refine (HDR.out _ HO.out.below).mono ?_
     rintro e w6 ⟨v6, rfl, ho6, hb6⟩
     obtain ⟨A6', m6', c6', rfl, _, _, _⟩ := ho6.formN
     have H6 := hide ho6
     replace HO := hide (HO.out.step hb6)
     replace HRS := hide (HRS.out.step hb6)
     clear ho6 hb6
     refine hK.out _ _ (⟨HO.out.cells 0 rfl, HO.out.cells 2 rfl⟩) (fun hS7 => ?_)
     clear hK K
     try simp only [Act.put, qa, qb, qc, qd, qe, qf]
     refine tk 8 ?_
     refine tk 9 ?_
     refine tk 10 ?_
     refine tk 11 ?_
     refine tk 12 ?_
     refine wpAnyH_done (by kernel_rfl) ?_ _
     clear hw2 HDR hS0
     go_wp2_with fail
     refine (rread33_c _ _ (by rw [HCN.out k HKH.out]; omega) _ H6.out.bs (fun j hj => (H6.out.lt j hj).2)).mono ?_
     rintro e w7 ⟨⟨yt, yi, yp, yq, ys⟩, rfl, hy, hb7⟩
     replace HO := hide (HO.out.step hb7)
     replace HRS := hide (HRS.out.step hb7)
     have HPT := hide (part_turn D J.turn k _ hy)
     clear hy hb7 H6
     unfold pv
     obtain ⟨n0, hn0⟩ : ∃ z : Int, (yt : Int) = z := ⟨_, rfl⟩
     obtain ⟨n1, hn1⟩ : ∃ z : Int, (yi : Int) = z := ⟨_, rfl⟩
     obtain ⟨n2, hn2⟩ : ∃ z : Int, (yp : Int) = z := ⟨_, rfl⟩
     obtain ⟨n3, hn3⟩ : ∃ z : Int, (yq : Int) = z := ⟨_, rfl⟩
     have HEQT : Hid ((yt == J.turn) = (n0 == zt)) := hide (by rw [Bool.eq_iff_iff]; simp; have := HZ.out; omega)
     dsimp only at HPT ⊢
     rw [hn0, hn1, hn2, hn3]
     clear hn0 hn1 hn2 hn3
     cases hok : prtOk (content D (first D J.turn + k)) with
     | false =>
      cases so with
      | true =>
       have HSN : Hid (staleTo D J.turn J.used (k + 1) = (true || (false && (yt == J.turn)))) := hide (by rw [staleTo_next D J.turn J.used k HK.out.1, hso, HPT.out, hok])
       clear hso hok
       go_wp2_with (first
        | ((with_reducible refine at_alloc 99 ?_); refine wpList_alloc_own_n HO.out rfl 99 rfl zpartC rpart_info ?_; intro WA b9 hb hO hbel; have HB9 : Hid (∀ j, (Value.slice Ar nr cr).ownBlock = some j → j < b9) := hide (fun j hj => by have h1 := (HRS.out.lt j hj).2; omega); replace HRS := hide (HRS.out.step hbel); replace HO := hide hO; clear hO hbel hb)
        | ((with_reducible refine at_store 99 (.tmp 9) ?_); refine wpList_store_own_t HO.out rfl 99 (.tmp 9) (.tmp 56) rfl 3 _ 0 _ _ ([.int .i64 n0, .int .i64 n1, .int .i64 n2, .int .i64 n3, sv ys]) ([.int .i64 n0, .int .i64 n1, .int .i64 n2, .int .i64 n3, sv ys]) rfl (.agg ([.int .i64 n0, .int .i64 n1, .int .i64 n2, .int .i64 n3, sv ys] : List Value).toArray) rfl rfl (fits_agg _) (by simp [zpartC]) (splice_all rfl) rpart_size rfl ?_; intro WA hO _ ht; replace HRS := hide (HRS.out.touch ht (fun j hj hm => by simp at hm; have := HB9.out j hj; omega)); replace HO := hide hO; clear hO ht; have k4 := HO.out.cells 2 rfl; have k9 := HO.out.cells 3 rfl))
       replace HO := hide (HO.out.sub (M := [(b1, 32, [.slice A n c, .slice B m b, .int .i64 fz, .bool false]), (b2, 51, zjr), (b4, 51, [.slice A n c, .slice B m b, .int .i64 fz, .bool false, .int .i64 zt, sv st, .slice Ar nr cr, .int .i64 zu, .bool false])]) (by simp))
       go_roundw
       case rel => exact ⟨k + 1, by go_num, by rw [HSN.out]; rfl, by have := HK.out; omega, by have := HK.out; have := HKH.out; omega, fun h => absurd h HTN.out, HO.out, HRS.out⟩
       case measure => (simp [intOf]; have := HKH.out; omega)
      | false =>
       have HSN : Hid (staleTo D J.turn J.used (k + 1) = (false || (false && (yt == J.turn)))) := hide (by rw [staleTo_next D J.turn J.used k HK.out.1, hso, HPT.out, hok])
       clear hso hok
       go_wp2_with (first
        | ((with_reducible refine at_alloc 99 ?_); refine wpList_alloc_own_n HO.out rfl 99 rfl zpartC rpart_info ?_; intro WA b9 hb hO hbel; have HB9 : Hid (∀ j, (Value.slice Ar nr cr).ownBlock = some j → j < b9) := hide (fun j hj => by have h1 := (HRS.out.lt j hj).2; omega); replace HRS := hide (HRS.out.step hbel); replace HO := hide hO; clear hO hbel hb)
        | ((with_reducible refine at_store 99 (.tmp 9) ?_); refine wpList_store_own_t HO.out rfl 99 (.tmp 9) (.tmp 56) rfl 3 _ 0 _ _ ([.int .i64 n0, .int .i64 n1, .int .i64 n2, .int .i64 n3, sv ys]) ([.int .i64 n0, .int .i64 n1, .int .i64 n2, .int .i64 n3, sv ys]) rfl (.agg ([.int .i64 n0, .int .i64 n1, .int .i64 n2, .int .i64 n3, sv ys] : List Value).toArray) rfl rfl (fits_agg _) (by simp [zpartC]) (splice_all rfl) rpart_size rfl ?_; intro WA hO _ ht; replace HRS := hide (HRS.out.touch ht (fun j hj hm => by simp at hm; have := HB9.out j hj; omega)); replace HO := hide hO; clear hO ht; have k4 := HO.out.cells 2 rfl; have k9 := HO.out.cells 3 rfl))
       replace HO := hide (HO.out.sub (M := [(b1, 32, [.slice A n c, .slice B m b, .int .i64 fz, .bool false]), (b2, 51, zjr), (b4, 51, [.slice A n c, .slice B m b, .int .i64 fz, .bool false, .int .i64 zt, sv st, .slice Ar nr cr, .int .i64 zu, .bool false])]) (by simp))
       go_roundw
       case rel => exact ⟨k + 1, by go_num, by rw [HSN.out]; rfl, by have := HK.out; omega, by have := HK.out; have := HKH.out; omega, fun h => absurd h HTN.out, HO.out, HRS.out⟩
       case measure => (simp [intOf]; have := HKH.out; omega)
     | true =>
      cases so with
      | true =>
       have HSN : Hid (staleTo D J.turn J.used (k + 1) = (true || (true && (yt == J.turn)))) := hide (by rw [staleTo_next D J.turn J.used k HK.out.1, hso, HPT.out, hok])
       clear hso hok
       go_wp2_with (first
        | ((with_reducible refine at_alloc 99 ?_); refine wpList_alloc_own_n HO.out rfl 99 rfl zpartC rpart_info ?_; intro WA b9 hb hO hbel; have HB9 : Hid (∀ j, (Value.slice Ar nr cr).ownBlock = some j → j < b9) := hide (fun j hj => by have h1 := (HRS.out.lt j hj).2; omega); replace HRS := hide (HRS.out.step hbel); replace HO := hide hO; clear hO hbel hb)
        | ((with_reducible refine at_store 99 (.tmp 9) ?_); refine wpList_store_own_t HO.out rfl 99 (.tmp 9) (.tmp 56) rfl 3 _ 0 _ _ ([.int .i64 n0, .int .i64 n1, .int .i64 n2, .int .i64 n3, sv ys]) ([.int .i64 n0, .int .i64 n1, .int .i64 n2, .int .i64 n3, sv ys]) rfl (.agg ([.int .i64 n0, .int .i64 n1, .int .i64 n2, .int .i64 n3, sv ys] : List Value).toArray) rfl rfl (fits_agg _) (by simp [zpartC]) (splice_all rfl) rpart_size rfl ?_; intro WA hO _ ht; replace HRS := hide (HRS.out.touch ht (fun j hj hm => by simp at hm; have := HB9.out j hj; omega)); replace HO := hide hO; clear hO ht; have k4 := HO.out.cells 2 rfl; have k9 := HO.out.cells 3 rfl))
       replace HO := hide (HO.out.sub (M := [(b1, 32, [.slice A n c, .slice B m b, .int .i64 fz, .bool false]), (b2, 51, zjr), (b4, 51, [.slice A n c, .slice B m b, .int .i64 fz, .bool false, .int .i64 zt, sv st, .slice Ar nr cr, .int .i64 zu, .bool false])]) (by simp))
       go_roundw
       case rel => exact ⟨k + 1, by go_num, by rw [HSN.out]; rfl, by have := HK.out; omega, by have := HK.out; have := HKH.out; omega, fun h => absurd h HTN.out, HO.out, HRS.out⟩
       case measure => (simp [intOf]; have := HKH.out; omega)
      | false =>
       have HSN : Hid (staleTo D J.turn J.used (k + 1) = (false || (true && (yt == J.turn)))) := hide (by rw [staleTo_next D J.turn J.used k HK.out.1, hso, HPT.out, hok])
       clear hso hok
       go_wp2_with (first
        | ((with_reducible refine at_alloc 99 ?_); refine wpList_alloc_own_n HO.out rfl 99 rfl zpartC rpart_info ?_; intro WA b9 hb hO hbel; have HB9 : Hid (∀ j, (Value.slice Ar nr cr).ownBlock = some j → j < b9) := hide (fun j hj => by have h1 := (HRS.out.lt j hj).2; omega); replace HRS := hide (HRS.out.step hbel); replace HO := hide hO; clear hO hbel hb)
        | ((with_reducible refine at_store 99 (.tmp 9) ?_); refine wpList_store_own_t HO.out rfl 99 (.tmp 9) (.tmp 56) rfl 3 _ 0 _ _ ([.int .i64 n0, .int .i64 n1, .int .i64 n2, .int .i64 n3, sv ys]) ([.int .i64 n0, .int .i64 n1, .int .i64 n2, .int .i64 n3, sv ys]) rfl (.agg ([.int .i64 n0, .int .i64 n1, .int .i64 n2, .int .i64 n3, sv ys] : List Value).toArray) rfl rfl (fits_agg _) (by simp [zpartC]) (splice_all rfl) rpart_size rfl ?_; intro WA hO _ ht; replace HRS := hide (HRS.out.touch ht (fun j hj hm => by simp at hm; have := HB9.out j hj; omega)); replace HO := hide hO; clear hO ht; have k4 := HO.out.cells 2 rfl; have k9 := HO.out.cells 3 rfl))
       replace HO := hide (HO.out.sub (M := [(b1, 32, [.slice A n c, .slice B m b, .int .i64 fz, .bool false]), (b2, 51, zjr), (b4, 51, [.slice A n c, .slice B m b, .int .i64 fz, .bool false, .int .i64 zt, sv st, .slice Ar nr cr, .int .i64 zu, .bool false])]) (by simp))
       go_roundw
       case rel => exact ⟨k + 1, by go_num, by rw [HSN.out, HEQT.out]; rfl, by have := HK.out; omega, by have := HK.out; have := HKH.out; omega, fun h => absurd h HTN.out, HO.out, HRS.out⟩
       case measure => (simp [intOf]; have := HKH.out; omega)
   ·have HKE : Hid (k = half D) := hide (by have := HK.out; have := HZ.out; omega)
    have HSA : Hid (staleTo D J.turn J.used (half D) = so) := hide (by rw [← hso, HKE.out])
    clear hso
    cases so with
    | false =>
     have HX : Hid (jO D = (D, J, 0)) := hide (by
      rw [HJO.out]
      by_cases h0 : J.turn = 0
      ·rw [if_pos h0]
      ·rw [if_neg h0]; unfold erase; rw [stale_to, HSA.out]; rfl)
     go_wp2_with (first
      | ((with_reducible refine at_load 51 (.tmp 4) ?_); refine wpList_load_own HO.out rfl 51 (.tmp 4) rfl 2 _ 0 9 _ _ ([.slice A n c, .slice B m b, .int .i64 fz, .bool false, .int .i64 zt, sv st, .slice Ar nr cr, .int .i64 zu, .bool false]) _ rfl (take_all rfl) rfl Tryz.underlying51 rfl rjr_size ?_)
      | ((with_reducible refine at_store 51 (.tmp 2) ?_); refine wpList_store_own_t HO.out rfl 51 (.tmp 2) (.tmp 71) rfl 1 _ 0 _ _ ([.slice A n c, .slice B m b, .int .i64 fz, .bool false, .int .i64 zt, sv st, .slice Ar nr cr, .int .i64 zu, .bool false]) ([.slice A n c, .slice B m b, .int .i64 fz, .bool false, .int .i64 zt, sv st, .slice Ar nr cr, .int .i64 zu, .bool false]) rfl (.agg ([.slice A n c, .slice B m b, .int .i64 fz, .bool false, .int .i64 zt, sv st, .slice Ar nr cr, .int .i64 zu, .bool false] : List Value).toArray) rfl rfl (fits_agg _) (by simp [zjr]) (splice_all rfl) rjr_size rfl ?_; intro WA hO _ ht; replace HRS := hide (HRS.out.touch ht (fun j hj hm => by simp at hm; have := HRB.out j hj; omega)); replace HO := hide hO; clear hO ht))
     refine bodyPost_ret (v := .tuple #[.agg ([.slice A n c, .slice B m b, .int .i64 fz, .bool false, .int .i64 zt, sv st, .slice Ar nr cr, .int .i64 zu, .bool false] : List Value).toArray, .int .i64 0]) (results_row_tmp rfl _ _ b2 51 ([.slice A n c, .slice B m b, .int .i64 fz, .bool false, .int .i64 zt, sv st, .slice Ar nr cr, .int .i64 zu, .bool false] : List Value).toArray (0, 0) _ _ rfl rfl (HO.out.blk 1 rfl) Tryz.underlying51 rfl rjr_size) rfl ?_
     refine ⟨_, by rw [HX.out], ?_, HO.out.below⟩
     rw [HX.out]
     exact ⟨A, n, c, B, m, b, _, by dsimp only; rw [HFZ, HFL.out, HZ.out.1, HZ.out.2.1, HZ.out.2.2.1, HBR.out], by unfold rv; rw [HFZ, HFL.out]; exact HR0.out.step HO.out.below, HRS.out, fun j hj => ⟨(HRS.out.lt j hj).2, fun hm => by have := HF.out j hm; have := HRB.out j hj; have := HW1.out; omega⟩⟩
    | true =>
     have HTN : Hid (J.turn ≠ 0) := hide (fun h0 => by
      have h1 := HSA.out
      rw [← HKE.out, HK.out.2.2 h0] at h1
      unfold staleTo at h1
      rw [Nat.sub_self] at h1
      cases h1)
     have HX : Hid (jO D = ((dWrites D ((dirtyTo D J.turn J.used (half D)).map (·, List.replicate 128 0))).1, J, (dWrites D ((dirtyTo D J.turn J.used (half D)).map (·, List.replicate 128 0))).2)) := hide (by rw [HJO.out, if_neg HTN.out]; unfold erase; rw [stale_to, HSA.out]; rfl)
     have k4b := ((HO.out.alloc (.cells #[] 35)).alloc (.cells #[] 3)).cells 2 rfl
     have HOZ := HO
     have HRSZ := HRS
     go_wp2_with fail
     go_loopw [11, 12, 13] (fun v11 v12 v13 wr => ∃ k : Nat, v13 = .int .i64 k ∧ J.used ≤ k ∧ k ≤ half D ∧ Pz wr wX.heap.size v11 (dirtyTo D J.turn J.used k).length ∧ Ns wr wX.heap.size v12 (dirtyTo D J.turn J.used k) ∧ Below wX.heap.size wX wr) (fun _ _ v13 _ => half D - (intOf v13).toNat)
     case atStart => exact ⟨J.used, by rw [HZ.out.2.2.1], Nat.le_refl _, HUH.out, by unfold dirtyTo; rw [Nat.sub_self]; exact (Pz.empty wX).step (below_al _ _), by unfold dirtyTo; rw [Nat.sub_self]; have hne := Ns.empty (wX.alloc (.cells #[] 35)); rw [World.size_alloc] at hne; exact Ns.mono (base' := wX.heap.size) hne (by omega), below_two wX _ _⟩
     case round =>
      obtain ⟨k, rfl, hk1, hk2, hpz, hns, hbw⟩ := hrel
      have HPZ := hide hpz
      have HNS := hide hns
      have HBW := hide hbw
      have HK := hide (And.intro hk1 hk2)
      have HO := hide (HOZ.out.step hbw)
      clear hpz hns hbw hk1 hk2
      have k1 := HO.out.cells 0 rfl
      have k4 := HO.out.cells 2 rfl
      go_wp2_with (first
       | ((with_reducible refine at_load 32 (.tmp 1) ?_); refine wpList_load_own HO.out rfl 32 (.tmp 1) rfl 0 _ 0 4 _ _ ([.slice A n c, .slice B m b, .int .i64 fz, .bool false]) _ rfl (take_all rfl) rfl Tryz.underlying32 rfl rdisk_size ?_))
      refine (HHC.out _ HO.out.below).mono ?_
      rintro e w20 ⟨rfl, hbh⟩
      replace HO := hide (HO.out.step hbh)
      replace HPZ := hide (HPZ.out.step hbh)
      replace HNS := hide (HNS.out.step hbh)
      replace HBW := hide (HBW.out.trans (hbh.mono HBW.out.size))
      clear hbh k1 k4
      have k1 := HO.out.cells 0 rfl
      have k4 := HO.out.cells 2 rfl
      by_cases hkz2 : (k : Int) < zh
      ·have HKH : Hid (k < half D) := hide (by have := HZ.out; omega)
       have HDR := hide (HRD.out k HKH.out)
       have hw2 : IntKind.i64.wrap (zf + (k : Int)) = zf + (k : Int) := IntWalk.i64_in _ (by omega)
       go_wp2_with fail
       refine wp_region_held_drew (S := fun W => (∀ j, W.cell? ⟨b1, j, none⟩ = ([.slice A n c, .slice B m b, .int .i64 fz, .bool false] : List Value)[j]?) ∧ (∀ j, W.cell? ⟨b4, j, none⟩ = ([.slice A n c, .slice B m b, .int .i64 fz, .bool false, .int .i64 zt, sv st, .slice Ar nr cr, .int .i64 zu, .bool false] : List Value)[j]?)) (by kernel_rfl) (⟨HO.out.drew.cells 0 rfl, HO.out.drew.cells 2 rfl⟩) (fun hS0 => ?_)
       replace HO := hide HO.out.drew
       replace HPZ := hide (HPZ.out.step (below_drew _))
       replace HNS := hide (HNS.out.step (below_drew _))
       replace HBW := hide (HBW.out.trans ((below_drew _).mono HBW.out.size))
       refine ty 0 (.agg ([.slice A n c, .slice B m b, .int .i64 fz, .bool false]).toArray) rfl (yieldsIf_load rfl 32 (.tmp 1) rfl b1 0 4 32 ([.slice A n c, .slice B m b, .int .i64 fz, .bool false]) ([.slice A n c, .slice B m b, .int .i64 fz, .bool false]) _ (fun w hw => hw.1) (take_all rfl) rfl Tryz.underlying32 rfl rdisk_size) ?_
       refine ty 1 (.agg ([.slice A n c, .slice B m b, .int .i64 fz, .bool false]).toArray) rfl (yieldsIf_load rfl 32 (.tmp 1) rfl b1 0 4 32 ([.slice A n c, .slice B m b, .int .i64 fz, .bool false]) ([.slice A n c, .slice B m b, .int .i64 fz, .bool false]) _ (fun w hw => hw.1) (take_all rfl) rfl Tryz.underlying32 rfl rdisk_size) ?_
       refine tk 2 ?_
       refine tk 3 ?_
       refine tk 5 ?_
       refine tr1 4 fun K hK => ?_
       go_simp
       refine (HFI.out _ HO.out.below).mono ?_
       rintro e w5 ⟨rfl, hb5⟩
       replace HO := hide (HO.out.step hb5)
       replace HPZ := hide (HPZ.out.step hb5)
       replace HNS := hide (HNS.out.step hb5)
       replace HBW := hide (HBW.out.trans (hb5.mono HBW.out.size))
       clear hb5
       refine hK.out _ _ (⟨HO.out.cells 0 rfl, HO.out.cells 2 rfl⟩) (fun hS5 => ?_)
       clear hK K
       try simp only [Act.put, qa, qb, qc, qd, qe, qf]
       refine tk 6 ?_
       refine tr1 7 fun K hK => ?_
       go_simp
       refine (HDR.out _ HO.out.below).mono ?_
       rintro e w6 ⟨v6, rfl, ho6, hb6⟩
       obtain ⟨A6', m6', c6', rfl, _, _, _⟩ := ho6.formN
       have H6 := hide ho6
       replace HO := hide (HO.out.step hb6)
       replace HPZ := hide (HPZ.out.step hb6)
       replace HNS := hide (HNS.out.step hb6)
       replace HBW := hide (HBW.out.trans (hb6.mono HBW.out.size))
       clear ho6 hb6
       refine hK.out _ _ (⟨HO.out.cells 0 rfl, HO.out.cells 2 rfl⟩) (fun hS7 => ?_)
       clear hK K
       try simp only [Act.put, qa, qb, qc, qd, qe, qf]
       refine tk 8 ?_
       refine tk 9 ?_
       refine tk 10 ?_
       refine tk 11 ?_
       refine tk 12 ?_
       refine wpAnyH_done (by kernel_rfl) ?_ _
       clear HDR hS0
       go_wp2_with fail
       refine (rzero_c _ _ (by rw [HCN.out k HKH.out]; omega) _ H6.out.bs).mono ?_
       rintro e w6 ⟨rfl, rfl⟩
       have HAZ : Hid (allZ (content D (first D J.turn + k)) = true ↔ content D (first D J.turn + k) = List.replicate 128 0) := hide (by rw [allZ_iff, HCN.out k HKH.out])
       have HDN := hide (dirtyTo_next D J.turn J.used k HK.out.1)
       have HMP : Hid ((dirtyTo D J.turn J.used k).length ≤ 1000000) := hide (by have := dirtyTo_len D J.turn J.used k; have := HZ.out; omega)
       cases haz : allZ (content D (first D J.turn + k)) with
       | true =>
        have HSM : Hid (dirtyTo D J.turn J.used (k + 1) = dirtyTo D J.turn J.used k) := hide (by rw [HDN.out, if_pos (HAZ.out.1 haz), List.append_nil])
        clear haz
        go_wp2_with fail
        go_roundw
        case rel => exact ⟨k + 1, by go_num, by have := HK.out; omega, by have := HKH.out; omega, by rw [HSM.out]; exact HPZ.out, by rw [HSM.out]; exact HNS.out, HBW.out⟩
        case measure => (simp [intOf]; have := HKH.out; omega)
       | false =>
        have HSM : Hid (dirtyTo D J.turn J.used (k + 1) = dirtyTo D J.turn J.used k ++ [first D J.turn + k]) := hide (by rw [HDN.out, if_neg (fun h => by rw [HAZ.out.2 h] at haz; cases haz)])
        clear haz
        have hmk := make128
        have HZU : Hid (Ow (w6.alloc (.cells (zb 128) 5)) wX.heap.size (.slice (some ⟨w6.heap.size, 0, none⟩) 128 128) (List.replicate 128 0)) := hide (Ow.made _ _ (zb_list 128) HBW.out.size (by simp [maxLen]))
        have HBZ : Hid (wX.heap.size ≤ (w6.alloc (.cells (zb 128) 5)).heap.size) := hide (by rw [World.size_alloc]; have := HBW.out.size; omega)
        go_wp2_with (first
         | (at_builtin; refine wpList_append_z1 rfl _ _ rfl rfl (v := u11) rfl (HPZ.out.step (below_al _ _)) HZU.out HBZ.out rfl (by first | rfl | rw [World.size_alloc] | simp) HMP.out ?_; intro v9 W9 hp9 hb9 hn9; have HPZ9 := hide hp9; have HNS9 := hide (hn9 _ _ (HNS.out.step (below_al _ _))); have HBW9 := hide ((HBW.out.trans ((below_al _ _).mono HBW.out.size)).trans hb9); replace HO := hide (HOZ.out.step HBW9.out); have k4 := HO.out.cells 2 rfl; have k1 := HO.out.cells 0 rfl; clear hp9 hb9 hn9)
         | ((with_reducible refine at_load 32 (.tmp 1) ?_); refine wpList_load_own HO.out rfl 32 (.tmp 1) rfl 0 _ 0 4 _ _ ([.slice A n c, .slice B m b, .int .i64 fz, .bool false]) _ rfl (take_all rfl) rfl Tryz.underlying32 rfl rdisk_size ?_))
        refine (HFI.out _ HO.out.below).mono ?_
        rintro e w30 ⟨rfl, hb30⟩
        replace HPZ9 := hide (HPZ9.out.step hb30)
        replace HNS9 := hide (HNS9.out.step hb30)
        replace HBW9 := hide (HBW9.out.trans (hb30.mono HBW9.out.size))
        clear hb30
        go_wp2_with (at_builtin; refine wpList_append_n rfl _ _ rfl (z := zf + (k : Int)) (t := first D J.turn + k) (by have := HZ.out; omega) (v := u12) rfl HNS9.out HBW9.out.size rfl rfl HMP.out ?_; intro v11' W11 hn' hb' ht' _; have HPZ11 := hide (HPZ9.out.append HNS9.out ht'); have HNS11 := hide hn'; have HBW11 := hide (HBW9.out.trans hb'); clear hn' hb' ht')
        go_roundw
        case rel => exact ⟨k + 1, by go_num, by have := HK.out; omega, by have := HKH.out; omega, by rw [HSM.out, List.length_append]; exact HPZ11.out, by rw [HSM.out]; exact HNS11.out, HBW11.out⟩
        case measure => (simp [intOf]; have := HKH.out; omega)
      ·have HKE2 : Hid (k = half D) := hide (by have := HK.out; have := HZ.out; omega)
       obtain ⟨dl, hdl⟩ : ∃ x, dirtyTo D J.turn J.used (half D) = x := ⟨_, rfl⟩
       have hdk : dirtyTo D J.turn J.used k = dl := by rw [HKE2.out, hdl]
       rw [hdk] at HPZ HNS
       rw [hdl] at HX
       have hdn : dl.length ≤ 5000 := by rw [← hdl]; have := dirtyTo_len D J.turn J.used (half D); have := HZ.out; omega
       have HDL := hide hdn
       obtain ⟨E, hE⟩ : ∃ E, E = dWrites D (dl.map (·, List.replicate 128 0)) := ⟨_, rfl⟩
       obtain ⟨E1, ec⟩ := E
       have HW3 : Hid (∀ (X : World) (va vp : Value), Below w.heap.size w X → (∀ j ∈ [b1, b2, b4], j < X.heap.size) → (∀ j ∈ [b1, b2, b4], w.heap.size ≤ j) → Ns X wX.heap.size va dl → Pz X wX.heap.size vp dl.length → Calls Tryz.prog 55 #[.agg ([.slice A n c, .slice B m b, .int .i64 fz, .bool false] : List Value).toArray, va, vp] X (GivesRE X ([b1, b2, b4] ++ F) (E1, ec))) := hide (fun X va vp k hM hM2 ha hp2 => by rw [hE]; exact HWR.out X va vp [b1, b2, b4] wX.heap.size dl HDL.out k hM hM2 ha hp2)
       rw [← hE] at HX
       dsimp only at HX
       have HRS2 : Hid (Rs w20 0 (.slice Ar nr cr) J.records) := hide (HRSZ.out.step HBW.out)
       clear hE hdl hdk hdn HWR
       go_wp2_with (first
        | ((with_reducible refine at_load 32 (.tmp 1) ?_); refine wpList_load_own HO.out rfl 32 (.tmp 1) rfl 0 _ 0 4 _ _ ([.slice A n c, .slice B m b, .int .i64 fz, .bool false]) _ rfl (take_all rfl) rfl Tryz.underlying32 rfl rdisk_size ?_))
       refine (HW3.out _ _ _ HO.out.below (by simp only [List.mem_cons, List.not_mem_nil, or_false, forall_eq_or_imp, forall_eq]; exact ⟨(HO.out.blk 0 rfl).lt, (HO.out.blk 1 rfl).lt, (HO.out.blk 2 rfl).lt⟩) (by simp only [List.mem_cons, List.not_mem_nil, or_false, forall_eq_or_imp, forall_eq]; exact ⟨HO.out.new 0 rfl, HO.out.new 1 rfl, HO.out.new 2 rfl⟩) HNS.out HPZ.out).mono ?_
       rintro e w31 ⟨v31, rfl, hr31, hb31⟩
       obtain ⟨A6, n6, c6, B6, m6, b6, vs6, xs6, rfl, hk6⟩ := hr31.form
       have HR6 := hide hr31
       replace HO := hide (HO.out.step hb31)
       replace HRS2 := hide (HRS2.out.step hb31)
       clear hr31 hb31 hk6 HW3 HPZ HNS HBW
       unfold rv at HR6 ⊢
       dsimp only at HR6 ⊢
       generalize HEQ : E1.fuse = fz6 at *
       generalize HEL : E1.failed = fl6 at *
       go_wp2_with (first
        | ((with_reducible refine at_store 32 (.tmp 1) ?_); refine wpList_store_own_t HO.out rfl 32 (.tmp 1) (.tmp 114) rfl 0 _ 0 _ _ ([.slice A6 n6 c6, .slice B6 m6 b6, .int .i64 fz6, .bool fl6]) ([.slice A6 n6 c6, .slice B6 m6 b6, .int .i64 fz6, .bool fl6]) rfl (.agg ([.slice A6 n6 c6, .slice B6 m6 b6, .int .i64 fz6, .bool fl6] : List Value).toArray) rfl rfl (fits_agg _) (by simp) (splice_all rfl) rdisk_size rfl ?_; intro WA hO _ ht; replace HR6 := hide (HR6.out.touch (ht.mono (by simp)) (fun j hj => .inl hj)); replace HRS2 := hide (HRS2.out.touch ht (fun j hj hm => by simp at hm; have := HRB.out j hj; omega)); replace HO := hide hO; clear hO ht)
        | ((with_reducible refine at_load 32 (.tmp 1) ?_); refine wpList_load_own HO.out rfl 32 (.tmp 1) rfl 0 _ 0 4 _ _ ([.slice A6 n6 c6, .slice B6 m6 b6, .int .i64 fz6, .bool fl6]) _ rfl (take_all rfl) rfl Tryz.underlying32 rfl rdisk_size ?_)
        | ((with_reducible refine at_store 32 (.tmp 117) ?_); refine wpList_store_own_t HO.out rfl 32 (.tmp 117) (.tmp 116) rfl 2 _ 0 _ _ ([.slice A6 n6 c6, .slice B6 m6 b6, .int .i64 fz6, .bool fl6]) ([.slice A6 n6 c6, .slice B6 m6 b6, .int .i64 fz6, .bool fl6, .int .i64 zt, sv st, .slice Ar nr cr, .int .i64 zu, .bool false]) rfl (.agg ([.slice A6 n6 c6, .slice B6 m6 b6, .int .i64 fz6, .bool fl6] : List Value).toArray) rfl rfl (fits_agg _) (by simp) rfl rdisk_size rfl ?_; intro WA hO _ ht; replace HR6 := hide (HR6.out.touch (ht.mono (by simp)) (fun j hj => .inl hj)); replace HRS2 := hide (HRS2.out.touch ht (fun j hj hm => by simp at hm; have := HRB.out j hj; omega)); replace HO := hide hO; clear hO ht)
        | ((with_reducible refine at_load 51 (.tmp 4) ?_); refine wpList_load_own HO.out rfl 51 (.tmp 4) rfl 2 _ 0 9 _ _ ([.slice A6 n6 c6, .slice B6 m6 b6, .int .i64 fz6, .bool fl6, .int .i64 zt, sv st, .slice Ar nr cr, .int .i64 zu, .bool false]) _ rfl (take_all rfl) rfl Tryz.underlying51 rfl rjr_size ?_)
        | ((with_reducible refine at_store 51 (.tmp 2) ?_); refine wpList_store_own_t HO.out rfl 51 (.tmp 2) (.tmp 118) rfl 1 _ 0 _ _ ([.slice A6 n6 c6, .slice B6 m6 b6, .int .i64 fz6, .bool fl6, .int .i64 zt, sv st, .slice Ar nr cr, .int .i64 zu, .bool false]) ([.slice A6 n6 c6, .slice B6 m6 b6, .int .i64 fz6, .bool fl6, .int .i64 zt, sv st, .slice Ar nr cr, .int .i64 zu, .bool false]) rfl (.agg ([.slice A6 n6 c6, .slice B6 m6 b6, .int .i64 fz6, .bool fl6, .int .i64 zt, sv st, .slice Ar nr cr, .int .i64 zu, .bool false] : List Value).toArray) rfl rfl (fits_agg _) (by simp [zjr]) (splice_all rfl) rjr_size rfl ?_; intro WA hO _ ht; replace HR6 := hide (HR6.out.touch (ht.mono (by simp)) (fun j hj => .inl hj)); replace HRS2 := hide (HRS2.out.touch ht (fun j hj hm => by simp at hm; have := HRB.out j hj; omega)); replace HO := hide hO; clear hO ht))
       refine bodyPost_ret (v := .tuple #[.agg ([.slice A6 n6 c6, .slice B6 m6 b6, .int .i64 fz6, .bool fl6, .int .i64 zt, sv st, .slice Ar nr cr, .int .i64 zu, .bool false] : List Value).toArray, .int .i64 ec]) (results_row_tmp rfl _ _ b2 51 ([.slice A6 n6 c6, .slice B6 m6 b6, .int .i64 fz6, .bool fl6, .int .i64 zt, sv st, .slice Ar nr cr, .int .i64 zu, .bool false] : List Value).toArray (0, 0) _ _ rfl rfl (HO.out.blk 1 rfl) Tryz.underlying51 rfl rjr_size) rfl ?_
       refine ⟨_, by rw [HX.out], ?_, HO.out.below⟩
       rw [HX.out]
       exact ⟨A6, n6, c6, B6, m6, b6, _, by dsimp only; rw [HEQ, HEL, HZ.out.1, HZ.out.2.1, HZ.out.2.2.1, HBR.out], by unfold rv; rw [HEQ, HEL]; exact HR6.out.lessR (by intro j hj; simp only [List.cons_append, List.nil_append, List.mem_cons]; exact .inr (.inr (.inr hj))), HRS2.out, fun j hj => ⟨(HRS2.out.lt j hj).2, fun hm => by have := HF.out j hm; have := HRB.out j hj; have := HW1.out; omega⟩⟩
end Go.Proofs.YtpadgkkeihhneaaGreat
