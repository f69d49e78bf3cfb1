/- The reference's find. -/
import Derived.Test.YtpadgkkeihhneaaGreatC28
import Derived.Test.YtpadgkkeihhneaaGreatC21
import Derived.Test.YtpadgkkeihhneaaGreatC08
namespace Go.Proofs.YtpadgkkeihhneaaGreat
set_option maxRecDepth 100000
set_option linter.unusedSimpArgs false
set_option linter.unusedVariables false
open List renaming getElem_toArray → qa, getElem_cons_zero → qb, getElem_cons_succ → qc, setIfInBounds_toArray → qd, set_cons_zero → qe, set_cons_succ → qf
open Go.ChangeShapes Go.WideShapes Go.ChangeAt Go.RowKit
/-- A whole slice of texts, its block not below base. -/
def Rs (w : World) (base : Nat) (v : Value) (l : List (List UInt8)) : Prop := w.ownsRow base 9 1 v l.length (l.map sv)
theorem Rs.nil (w : World) (base : Nat) : Rs w base (.slice none 0 0) [] := World.ownsRow_nil w base 9 1
theorem Rs.mono {w : World} {base base' : Nat} {v : Value} {l : List (List UInt8)} (h : Rs w base v l) (hb : base' ≤ base) : Rs w base' v l := by
 obtain ⟨hl, h1 | ⟨g, cap, cur, hv, hg, r⟩⟩ := h
 ·exact ⟨hl, .inl h1⟩
 ·exact ⟨hl, .inr ⟨g, cap, cur, hv, Nat.le_trans hb hg, r⟩⟩
theorem Rs.lt {w : World} {base : Nat} {v : Value} {l : List (List UInt8)} (h : Rs w base v l) : ∀ k, v.ownBlock = some k → base ≤ k ∧ k < w.heap.size := World.ownsRow.lt h
theorem Rs.touch {S : List Nat} {w w' : World} {base : Nat} {v : Value} {l : List (List UInt8)} (h : Rs w base v l) (k : Touch S w w') (hv : ∀ j, v.ownBlock = some j → j ∉ S) : Rs w' base v l := by
 obtain ⟨hl, h1 | ⟨g, cap, cur, rfl, hb, hgg, r⟩⟩ := h
 ·exact ⟨hl, .inl h1⟩
 ·exact ⟨hl, .inr ⟨g, cap, cur, rfl, hb, (k.block g (Array.getElem?_eq_some_iff.1 hgg).1 (hv g rfl)).trans hgg, r⟩⟩
theorem Rs.step {w w' : World} {base : Nat} {v : Value} {l : List (List UInt8)} (h : Rs w base v l) (k : Below w.heap.size w w') : Rs w' base v l := h.touch (Touch.below k []) (by simp)
theorem Rs.sl {w : World} {base : Nat} {v : Value} {l : List (List UInt8)} (h : Rs w base v l) : Sl w v l := by
 have hr : Row w 9 1 v l.length (l.map sv) := h.mono (Nat.zero_le base)
 obtain ⟨A, c, rfl, h2, h3⟩ := Row.form hr
 refine ⟨A, c, rfl, h2, by unfold maxLen; omega, fun h0 => ?_⟩
 obtain ⟨hl, ⟨hv, hn⟩ | ⟨g, cap, cur, hv, hb, hg, r⟩⟩ := hr
 ·omega
 ·injection hv with e1 e2 e3
  subst e1
  refine ⟨g, 0, rfl, (Array.getElem?_eq_some_iff.1 hg).1, fun j hj => ?_⟩
  have hv2 : (.slice (some ⟨g, 0, none⟩) l.length c : Value) = .slice (some ⟨g, 0, none⟩) l.length cap := by rw [e3]
  have hc := World.ownsRow.cellAt (base := 0) (e := 9) (size := 1) (n := l.length) (w := w) (cap := cap) ⟨hl, .inr ⟨g, cap, cur, rfl, hb, hg, r⟩⟩ j (by omega)
  rw [Nat.zero_add]
  rw [hc]
  simp [hj]
theorem Rs.formN {w : World} {base : Nat} {v : Value} {l : List (List UInt8)} (h : Rs w base v l) : ∃ A m c, v = .slice A m c ∧ Hid (m = l.length) ∧ m ≤ c ∧ c ≤ 9223372036854775807 := by
 obtain ⟨A, c, e, h2, h3⟩ := Row.form (show Row w 9 1 v l.length (l.map sv) from h.mono (Nat.zero_le base))
 exact ⟨A, _, c, e, rfl, h2, h3⟩
theorem Rs.one {w : World} {base : Nat} {v : Value} {l : List (List UInt8)} (h : Rs w base v l) : v.oneCell' = true := by obtain ⟨A, m, c, rfl, _⟩ := h.formN; rfl
theorem sv_ones (l : List (List UInt8)) : ∀ u ∈ l.map sv, u.oneCell' = true := by
 intro u hu; obtain ⟨x, _, rfl⟩ := List.mem_map.1 hu; rfl
/-- append([]string{}, l...): a new slice of the same texts. -/
theorem wpList_append_copy {ops : Array Oper} {rest : List Oper} {o : Oper} {a : Act} {w w0 : World} {Q : Exit → Act → World → Prop} (hgd : o.guard = none) (s x : Operand)
 (ho : o.op = .call { callee := .builtin .append, args := #[s, x], argTypes := #[49, 49] }) {base : Nat} {vx : Value} {l : List (List UInt8)} (hs : a.eval s = .slice (some ⟨w0.heap.size, 0, none⟩) 0 0) (hw : w = w0.alloc (.cells #[] 9))
 (hvx : a.eval x = vx) (hx : Rs w0 base vx l) (hlen : l.length ≤ 1000000)
 (h : ∀ v' w', Rs w' w0.heap.size v' l → Below w0.heap.size w0 w' → wpList Tryz.prog ops Q rest (a.put o.dst v') w') : wpList Tryz.prog ops Q (o :: rest) a w := by
 obtain ⟨i0, hi0, hz0, hz1, hz2⟩ := info_parts info_str
 subst hw
 have hrow := row_lit w0 w0.heap.size 9 1 0 [] rfl (by unfold maxLen; omega) (Nat.le_refl _)
 have hx2 : (w0.alloc (.cells #[] 9)).ownsRow base 9 1 vx l.length (l.map sv) := World.ownsRow.alloc hx _
 refine wpList_append_row hgd s x 49 ho w0.heap.size base 9 i0 _ 1 16 Tryz.underlying49 hi0 hz0 hz1 hz2 rfl (by decide) (n := 0) (m := l.length) hs hrow hvx hx2 (sv_ones l) (by unfold maxLen; omega) (by omega) (by rw [World.size_alloc]; omega) ?_
 intro v' w' hr hg ho2
 refine h v' w' ?_ ?_
 ·rw [Nat.zero_add, List.nil_append] at hr; exact hr
 ·exact ((Below.refl w0.heap.size w0).alloc (Nat.le_refl _) _).grown hg (by rw [World.size_alloc]; omega) (fun j hj => by injection hj with hj; rw [← hj]; exact Nat.le_refl _)
/-- .. and one more text. -/
theorem wpList_append_one {ops : Array Oper} {rest : List Oper} {o : Oper} {a : Act} {w w0 : World} {Q : Exit → Act → World → Prop} (hgd : o.guard = none) (s x : Operand)
 (ho : o.op = .call { callee := .builtin .append, args := #[s, x], argTypes := #[49, 49] }) {base : Nat} {v : Value} {l : List (List UInt8)} {t : List UInt8} {u : Value} (hu : u = sv t) (hs : a.eval s = v) (hv : Rs w0 base v l) (hb : base ≤ w0.heap.size) (hw : w = w0.alloc (.cells #[u] 9))
 (hvx : a.eval x = .slice (some ⟨w0.heap.size, 0, none⟩) 1 1) (hlen : l.length ≤ 1000000)
 (h : ∀ v' w', Rs w' base v' (l ++ [t]) → Below base w0 w' → wpList Tryz.prog ops Q rest (a.put o.dst v') w') : wpList Tryz.prog ops Q (o :: rest) a w := by
 obtain ⟨i0, hi0, hz0, hz1, hz2⟩ := info_parts info_str
 subst hw hu
 have hv2 : (w0.alloc (.cells #[sv t] 9)).ownsRow base 9 1 v l.length (l.map sv) := World.ownsRow.alloc hv _
 refine wpList_append_row hgd s x 49 ho base 0 9 i0 _ 1 16 Tryz.underlying49 hi0 hz0 hz1 hz2 rfl (by decide) (n := l.length) (m := 1) hs hv2 hvx (row_lit w0 0 9 1 1 [sv t] rfl (by unfold maxLen; omega) (Nat.zero_le _)) (by intro u hu; rw [List.mem_singleton.1 hu]; rfl) (by unfold maxLen; omega) (by omega) (by rw [World.size_alloc]; omega) ?_
 intro v' w' hr hg ho2
 refine h v' w' ?_ ?_
 ·show w'.ownsRow base 9 1 v' (l ++ [t]).length ((l ++ [t]).map sv)
  rw [List.length_append, List.map_append]
  exact hr
 ·exact ((Below.refl base w0).alloc hb _).grown hg (by rw [World.size_alloc]; omega) (fun j hj => (hv.lt j hj).1)
/-! ### What find computes -/
def jOf (D : DS) (t : Nat) : JS := if t = 0 then js0 else ⟨t, ((blocks D t).head?.map (·.1)).getD [], (blocks D t).tail.map (·.1), ((blocks D t).getLast?.map (·.2)).getD 0, false⟩
theorem jFind_of (D : DS) : jFind D = jOf D (find1 D) := rfl
theorem jOf_turn (D : DS) (t : Nat) : (jOf D t).turn = t := by
 unfold jOf; split
 ·rename_i h; exact h.symm
 ·rfl
theorem jOf_broken (D : DS) (t : Nat) : (jOf D t).broken = false := by unfold jOf; split <;> rfl
/-- Some of the blocks of a turn are found. -/
def RecI (D : DS) (t : Nat) (s : List UInt8) (recs : List (List UInt8)) (used : Nat) : Prop :=
 ∃ f pre, blocks D t = pre ++ blks D t f (recs.length + 1) used ∧ pre.map (·.1) = s :: recs ∧ (pre.getLast?.map (·.2)).getD 0 = used ∧ half D ≤ f + used ∧ used ≤ half D ∧ recs.length + 1 ≤ used
theorem RecI.first {D : DS} {t : Nat} {s : List UInt8} {n : Nat} (h : blk D t 0 0 = some (s, n)) : RecI D t s [] n := by
 have hp := blk_pos h
 obtain ⟨f, hf⟩ : ∃ f, half D = f + 1 := ⟨half D - 1, by omega⟩
 refine ⟨f, [(s, n)], ?_, rfl, rfl, by omega, by omega, by simpa using hp.1⟩
 unfold blocks
 rw [hf]
 conv => lhs; unfold blks
 rw [h]
 show (s, 0 + n) :: blks D t f (0 + 1) (0 + n) = [(s, n)] ++ blks D t f 1 n
 rw [Nat.zero_add, Nat.zero_add]
 rfl
theorem RecI.next {D : DS} {t : Nat} {s x : List UInt8} {recs : List (List UInt8)} {used n : Nat} (h : RecI D t s recs used) (hb : blk D t (recs.length + 1) used = some (x, n)) : RecI D t s (recs ++ [x]) (used + n) := by
 obtain ⟨f, pre, h1, h2, h3, h4, h5, h6⟩ := h
 have hp := blk_pos hb
 obtain ⟨f', rfl⟩ : ∃ f', f = f' + 1 := ⟨f - 1, by omega⟩
 refine ⟨f', pre ++ [(x, used + n)], ?_, ?_, ?_, by omega, by omega, ?_⟩
 ·rw [h1]
  conv => lhs; unfold blks
  rw [hb]
  show pre ++ ((x, used + n) :: blks D t f' (recs.length + 1 + 1) (used + n)) = _
  rw [List.length_append, List.append_assoc]
  rfl
 ·rw [List.map_append, h2]; rfl
 ·simp
 ·rw [List.length_append, List.length_singleton]; omega
theorem RecI.done {D : DS} {t : Nat} {s : List UInt8} {recs : List (List UInt8)} {used : Nat} (h : RecI D t s recs used) (hb : blk D t (recs.length + 1) used = none) (h0 : t ≠ 0) : jOf D t = ⟨t, s, recs, used, false⟩ := by
 obtain ⟨f, pre, h1, h2, h3, h4, h5, h6⟩ := h
 have e : blks D t f (recs.length + 1) used = [] := by
  cases f with
  | zero => rfl
  | succ f => unfold blks; rw [hb]
 rw [e, List.append_nil] at h1
 unfold jOf
 rw [if_neg h0, h1, h3]
 have e1 : (pre.head?.map (·.1)).getD [] = s := by rw [← List.head?_map, h2]; rfl
 have e2 : pre.tail.map (·.1) = recs := by rw [List.map_tail, h2]; rfl
 rw [e1, e2]
/-! ### The walk -/
def zjr : List Value := [.slice none 0 0, .slice none 0 0, .int .i64 0, .bool false, .int .i64 0, .string ⟨#[]⟩, .slice none 0 0, .int .i64 0, .bool false]
theorem rjr_info : (Tryz.prog.info? 51).map (·.zero) = some (some (.agg zjr.toArray)) := by kernel_rfl
theorem rjr_size : (Tryz.prog.info? 51).map (·.size) = some 9 := by kernel_rfl
theorem built_j0 (A : Option Addr) (n c : Nat) (B : Option Addr) (m b : Nat) (fz : Int) (fl : Bool) : Tryz.prog.built 51 [(0, .agg ([.slice A n c, .slice B m b, .int .i64 fz, .bool fl] : List Value).toArray)] = some ([.slice A n c, .slice B m b, .int .i64 fz, .bool fl, .int .i64 0, .string ⟨#[]⟩, .slice none 0 0, .int .i64 0, .bool false] : List Value).toArray := by kernel_rfl
theorem built_j1 (A : Option Addr) (n c : Nat) (B : Option Addr) (m b : Nat) (fz : Int) (fl : Bool) (zt zn : Int) (s : List UInt8) : Tryz.prog.built 51 [(0, .agg ([.slice A n c, .slice B m b, .int .i64 fz, .bool fl] : List Value).toArray), (1, .int .i64 zt), (2, sv s), (4, .int .i64 zn)] = some ([.slice A n c, .slice B m b, .int .i64 fz, .bool fl, .int .i64 zt, sv s, .slice none 0 0, .int .i64 zn, .bool false] : List Value).toArray := by kernel_rfl
theorem rstr_size : (Tryz.prog.info? 49).map (·.size) = some 1 := by kernel_rfl
theorem rint_size : (Tryz.prog.info? 3).map (·.size) = some 1 := by kernel_rfl
/-- What find returns. -/
def FindR (w : World) (A : Option Addr) (n c : Nat) (B : Option Addr) (m b : Nat) (fz : Int) (fl : Bool) (J : JS) (e : Ending) (w' : World) : Prop :=
 ∃ rv, e = .returned (.agg ([.slice A n c, .slice B m b, .int .i64 fz, .bool fl, .int .i64 J.turn, sv J.state, rv, .int .i64 J.used, .bool J.broken] : List Value).toArray) ∧ Rs w' w.heap.size rv J.records ∧ Below w.heap.size w w'
set_option maxHeartbeats 8000000 in
theorem rfind_c (F : List Nat) (D : DS) (A : Option Addr) (n c : Nat) (B : Option Addr) (m b : Nat) (fz : Int) (fl : Bool) (w : World) (h : Rf w F (.agg ([.slice A n c, .slice B m b, .int .i64 fz, .bool fl] : List Value).toArray) D) (hs : D.Sz) (h5 : D.pages.length ≤ 5000) (hf : D.failed = false) :
 Calls Tryz.prog 49 #[.agg ([.slice A n c, .slice B m b, .int .i64 fz, .bool fl] : List Value).toArray] w (FindR w A n c B m b fz fl (jFind D)) := by
 have HF := hide hf
 have HS := hide hs
 have HH : Hid (half D ≤ 5000) := hide (by unfold half; omega)
 have HCN : Hid (∀ p, p < 2 → (content D p).length = 128) := hide (fun p hp => content_ok h.ok _ (by have := hs.lo; omega))
 have HBC := hide (fun (t i a : Nat) (ht : t ≤ 1099511629000) (hi : i ≤ 1099511627776) (ha : a ≤ 1000000) (X : World) (k : Below w.heap.size w X) => rblk_c F _ D t i a ht hi ha X (h.step k) hs hf)
 have HRD : Hid (∀ (k : Nat) (X : World), k < 2 → Below w.heap.size w X → Calls Tryz.prog 51 #[.agg ([.slice A n c, .slice B m b, .int .i64 fz, .bool fl] : List Value).toArray, .int .i64 (k : Int)] X (RGot X (content D k, 0))) := hide (fun k X hk hX => by
  have := rread_c F _ D (k : Int) X (h.step hX) (by have := hs.pend; omega) hs.hi
  rwa [dRead_ok hf k (by have := hs.lo; omega)] at this)
 clear h hs hf h5
 have HO := hide (Own.nil w [] (by simp))
 go_enter Tryz.func49, Tryz.ntmps49
 go_wp2_with (first
  | ((with_reducible refine at_box 32 (.tmp 0) ?_); refine wpList_box_own HO.out rfl 32 (.tmp 0) rfl ([.slice A n c, .slice B m b, .int .i64 fz, .bool fl]) rfl ?_; intro WA b1 hO; replace HO := hide hO; clear hO)
  | (((with_reducible refine at_alloc 51 ?_); refine wpList_alloc_own HO.out rfl 51 rfl (zjr) rjr_info ?_; intro WA b2 hO; replace HO := hide hO; clear hO; refine Hid.out ?_)))
 refine hide ?_
 go_wp2_with (first
  | ((with_reducible refine at_load 32 (.tmp 1) ?_); refine wpList_load_own HO.out rfl 32 (.tmp 1) rfl 0 _ 0 4 _ _ ([.slice A n c, .slice B m b, .int .i64 fz, .bool fl]) _ rfl (take_all rfl) rfl Tryz.underlying32 rfl rdisk_size ?_)
  | (refine wpList_build rfl 51 _ rfl ([(0, .agg ([.slice A n c, .slice B m b, .int .i64 fz, .bool fl] : List Value).toArray)]) (by first | (simp [Act.eval]; done) | (simp [Act.eval]; rfl)) (([.slice A n c, .slice B m b, .int .i64 fz, .bool fl, .int .i64 0, .string ⟨#[]⟩, .slice none 0 0, .int .i64 0, .bool false] : List Value)).toArray (built_j0 _ _ _ _ _ _ fz fl) ?_)
  | ((with_reducible refine at_alloc 51 ?_); refine wpList_alloc_own_n HO.out rfl 51 rfl zjr rjr_info ?_; intro WA b3 hb hO hbel; have H23 : Hid (b2 < b3) := hide (by rw [hb]; exact (HO.out.blk 1 rfl).lt); have HW2 : Hid (w.heap.size ≤ b2) := hide (HO.out.new 1 rfl); replace HO := hide hO; clear hO hbel hb)
  | ((with_reducible refine at_store 51 (.tmp 3) ?_); refine wpList_store_own HO.out rfl 51 (.tmp 3) (.tmp 14) rfl 2 _ 0 _ _ ([.slice A n c, .slice B m b, .int .i64 fz, .bool fl, .int .i64 0, .string ⟨#[]⟩, .slice none 0 0, .int .i64 0, .bool false]) ([.slice A n c, .slice B m b, .int .i64 fz, .bool fl, .int .i64 0, .string ⟨#[]⟩, .slice none 0 0, .int .i64 0, .bool false]) rfl (.agg ([.slice A n c, .slice B m b, .int .i64 fz, .bool fl, .int .i64 0, .string ⟨#[]⟩, .slice none 0 0, .int .i64 0, .bool false]).toArray) rfl rfl (fits_agg _) (by simp [zjr]) (splice_all rfl) rjr_size rfl ?_; intro WA hO; replace HO := hide hO; clear hO))
 replace HO : Hid (Own w [] [(b1, 32, [.slice A n c, .slice B m b, .int .i64 fz, .bool fl]), (b2, 51, zjr), (b3, 51, [.slice A n c, .slice B m b, .int .i64 fz, .bool fl, .int .i64 0, .string ⟨#[]⟩, .slice none 0 0, .int .i64 0, .bool false])] _) := HO
 go_loopw [4] (fun v4 wr => ∃ (k : Nat) (rvb : Value), k ≤ 2 ∧ v4 = .int .i64 k ∧ Own w [] [(b1, 32, [.slice A n c, .slice B m b, .int .i64 fz, .bool fl]), (b2, 51, zjr), (b3, 51, [.slice A n c, .slice B m b, .int .i64 fz, .bool fl, .int .i64 (findK D k : Nat), sv (jOf D (findK D k)).state, rvb, .int .i64 ((jOf D (findK D k)).used : Nat), .bool ((jOf D (findK D k)).broken)])] wr ∧ Rs wr (b3 + 1) rvb (jOf D (findK D k)).records) (fun v4 _ => 2 - (intOf v4).toNat)
 case atStart => exact ⟨0, .slice none 0 0, by omega, rfl, HO.out, Rs.nil _ _⟩
 case round =>
  clear HO
  obtain ⟨k, rvb, hk, rfl, hO, hrb⟩ := hrel
  have HO := hide hO
  have HRB := hide hrb
  clear hO hrb
  by_cases hlt : k < 2
  ·have HFK : Hid (findK D (k + 1) = if findK D k < hdrOf k (content D k) ∧ (blk D (hdrOf k (content D k)) 0 0).isSome then hdrOf k (content D k) else findK D k) := hide rfl
   have hHT := hdrOf_lt k (content D k)
   obtain ⟨t, ht⟩ : ∃ t, t = hdrOf k (content D k) := ⟨_, rfl⟩
   have HTU : Hid (∀ (v : Value) (X : World), Bs X v (content D k) → (∀ j, v.ownBlock = some j → j < X.heap.size) → Calls Tryz.prog 64 #[v, .int .i64 k] X fun e w' => e = .returned (.int .i64 (t : Nat)) ∧ Below X.heap.size X w') := hide (fun v X hX hv => by rw [ht]; exact rturn_c v _ k (by rw [HCN.out k hlt]; omega) X hX hv)
   rw [← ht] at HFK hHT
   have HTB := hide hHT
   obtain ⟨zt, hzt⟩ : ∃ z : Int, (t : Int) = z := ⟨_, rfl⟩
   obtain ⟨zf, hzf⟩ : ∃ z : Int, ((findK D k : Nat) : Int) = z := ⟨_, rfl⟩
   obtain ⟨sf, hsf⟩ : ∃ x, (jOf D (findK D k)).state = x := ⟨_, rfl⟩
   obtain ⟨uf, huf⟩ : ∃ x : Int, ((jOf D (findK D k)).used : Int) = x := ⟨_, rfl⟩
   obtain ⟨bf, hbf⟩ : ∃ x, (jOf D (findK D k)).broken = x := ⟨_, rfl⟩
   have HZ := hide (And.intro hzt hzf)
   have t0 : 0 ≤ zt := by omega
   have HBACK : Hid ([.slice A n c, .slice B m b, .int .i64 fz, .bool fl, .int .i64 (findK D k : Nat), sv (jOf D (findK D k)).state, rvb, .int .i64 ((jOf D (findK D k)).used : Nat), .bool ((jOf D (findK D k)).broken)] = ([.slice A n c, .slice B m b, .int .i64 fz, .bool fl, .int .i64 zf, sv sf, rvb, .int .i64 uf, .bool bf] : List Value)) := hide (by rw [hzf, hsf, huf, hbf])
   rw [HBACK.out] at HO
   rw [hzt] at HTU
   clear hzt hzf hsf huf hbf ht hHT
   have k3 := HO.out.cells 2 rfl
   go_wp2_with (first
    | ((with_reducible refine at_load 32 (.tmp 1) ?_); refine wpList_load_own HO.out rfl 32 (.tmp 1) rfl 0 _ 0 4 _ _ ([.slice A n c, .slice B m b, .int .i64 fz, .bool fl]) _ rfl (take_all rfl) rfl Tryz.underlying32 rfl rdisk_size ?_))
   refine (HRD.out k _ hlt HO.out.below).mono ?_
   rintro e w6 ⟨v6, rfl, ho6, hb6⟩
   have H6 := hide ho6
   replace HO := hide (HO.out.step hb6)
   replace HRB := hide (HRB.out.step hb6)
   clear ho6 hb6
   go_wp2_with fail
   refine (HTU.out v6 _ H6.out.bs (fun j hj => (H6.out.lt j hj).2)).mono ?_
   rintro e w7 ⟨rfl, hb7⟩
   replace HO := hide (HO.out.step hb7)
   replace HRB := hide (HRB.out.step hb7)
   clear hb7 H6 HTU k3
   have k3 := HO.out.cells 2 rfl
   by_cases hle : zt ≤ zf
   ·have HE : Hid (findK D (k + 1) = findK D k) := hide (by rw [HFK.out, if_neg (fun h => by have := h.1; have := HZ.out; omega)])
    go_wp2_with fail
    go_roundw
    case rel => exact ⟨k + 1, rvb, by omega, by go_num, by rw [HE.out]; have := HO.out; rw [← HBACK.out] at this; exact this, by rw [HE.out]; exact HRB.out⟩
    case measure => simp [intOf]; omega
   ·have hgt : Hid (findK D k < t) := hide (by have := HZ.out; omega)
    have hle2 : zf < zt := by omega
    have HBB : Hid (∀ X : World, Below w.heap.size w X → Calls Tryz.prog 84 #[.agg ([.slice A n c, .slice B m b, .int .i64 fz, .bool fl] : List Value).toArray, .int .i64 zt, .int .i64 0, .int .i64 0] X (Gives X (rblkV (blk D t 0 0)))) := hide (fun X hX => by
     have := HBC.out t 0 0 (by have := HTB.out; omega) (by omega) (by omega) X hX
     rw [HZ.out.1] at this
     exact this)
    clear hle
    go_wp2_with (first
     | ((with_reducible refine at_load 32 (.tmp 1) ?_); refine wpList_load_own HO.out rfl 32 (.tmp 1) rfl 0 _ 0 4 _ _ ([.slice A n c, .slice B m b, .int .i64 fz, .bool fl]) _ rfl (take_all rfl) rfl Tryz.underlying32 rfl rdisk_size ?_))
    refine (HBB.out _ HO.out.below).mono ?_
    rintro e w8 ⟨rfl, hb8⟩
    replace HO := hide (HO.out.step hb8)
    replace HRB := hide (HRB.out.step hb8)
    clear hb8 HBB k3
    unfold rblkV
    cases hbk : blk D t 0 0 with
    | none =>
     have HNN : Hid (blk D t 0 0 = none) := hide hbk
     clear hbk
     have HE : Hid (findK D (k + 1) = findK D k) := hide (by rw [HFK.out, HNN.out, if_neg (fun x => by have := x.2; simp at this)])
     go_wp2_with fail
     go_roundw
     case rel => exact ⟨k + 1, rvb, by omega, by go_num, by rw [HE.out]; have := HO.out; rw [← HBACK.out] at this; exact this, by rw [HE.out]; exact HRB.out⟩
     case measure => simp [intOf]; omega
    | some x =>
     obtain ⟨s, n1⟩ := x
     have HE : Hid (findK D (k + 1) = t) := hide (by rw [HFK.out, hbk, if_pos ⟨hgt.out, rfl⟩])
     have HI := hide (RecI.first hbk)
     have HSM := hide hbk
     have hp := blk_pos hbk
     have hn5 : n1 ≤ 5000 := by have := HH.out; omega
     dsimp only [Option.map, Option.getD]
     obtain ⟨zn, hzn⟩ : ∃ z : Int, (n1 : Int) = z := ⟨_, rfl⟩
     have HZN := hide hzn
     have n0 : 1 ≤ zn := by omega
     have n5 : zn ≤ 5000 := by omega
     rw [hzn]
     clear hbk hp hn5 hzn HRB
     have hne : (zn == 0) = false := by simpa using (by omega : zn ≠ 0)
     have HRV : Hid (Rs w8 0 (.slice none 0 0) []) := hide (Rs.nil _ _)
     have HT0 : Hid (t ≠ 0) := hide (by have := hgt.out; omega)
     go_wp2_with (first
 | ((with_reducible refine at_load 32 (.tmp 1) ?_); refine wpList_load_own HO.out rfl 32 (.tmp 1) rfl 0 _ 0 4 _ _ ([.slice A n c, .slice B m b, .int .i64 fz, .bool fl]) _ rfl (take_all rfl) rfl Tryz.underlying32 rfl rdisk_size ?_)
 | (refine wpList_build rfl 51 _ rfl ([(0, .agg ([.slice A n c, .slice B m b, .int .i64 fz, .bool fl] : List Value).toArray), (1, .int .i64 zt), (2, sv s), (4, .int .i64 zn)]) (by first | (simp [Act.eval]; done) | (simp [Act.eval]; rfl)) (([.slice A n c, .slice B m b, .int .i64 fz, .bool fl, .int .i64 zt, sv s, .slice none 0 0, .int .i64 zn, .bool false] : List Value)).toArray (built_j1 _ _ _ _ _ _ fz fl zt zn s) ?_)
 | ((with_reducible refine at_alloc 51 ?_); refine wpList_alloc_own_n HO.out rfl 51 rfl zjr rjr_info ?_; intro WA b10 hb hO hbel; have H310 : Hid (b3 < b10) := hide (by rw [hb]; exact (HO.out.blk 2 rfl).lt); replace HRV := hide (HRV.out.step hbel); replace HO := hide hO; clear hO hbel hb)
 | ((with_reducible refine at_store 51 (.tmp 10) ?_); refine wpList_store_own HO.out rfl 51 (.tmp 10) (.tmp 44) rfl 3 _ 0 _ _ ([.slice A n c, .slice B m b, .int .i64 fz, .bool fl, .int .i64 zt, sv s, .slice none 0 0, .int .i64 zn, .bool false]) ([.slice A n c, .slice B m b, .int .i64 fz, .bool fl, .int .i64 zt, sv s, .slice none 0 0, .int .i64 zn, .bool false]) rfl (.agg ([.slice A n c, .slice B m b, .int .i64 fz, .bool fl, .int .i64 zt, sv s, .slice none 0 0, .int .i64 zn, .bool false]).toArray) rfl rfl (fits_agg _) (by simp [zjr]) (splice_all rfl) rjr_size rfl ?_; intro WA hO; replace HO := hide hO; clear hO))
     clear HRV
     try simp only [Act.put, qa, qb, qc, qd, qe, qf]
     rw [← HZN.out] at HO
     go_loopw [11] (fun _ wr => ∃ (recs : List (List UInt8)) (used : Nat) (rv : Value), Own w [] [(b1, 32, [.slice A n c, .slice B m b, .int .i64 fz, .bool fl]), (b2, 51, zjr), (b3, 51, [.slice A n c, .slice B m b, .int .i64 fz, .bool fl, .int .i64 zf, sv sf, rvb, .int .i64 uf, .bool bf]), (b10, 51, [.slice A n c, .slice B m b, .int .i64 fz, .bool fl, .int .i64 zt, sv s, rv, .int .i64 (used : Nat), .bool false])] wr ∧ Rs wr (b10 + 1) rv recs ∧ RecI D t s recs used) (fun _ wr => 5001 - (intOf ((wr.cell? ⟨b10, 7, none⟩).getD undef)).toNat)
     case atStart => exact ⟨[], n1, _, HO.out, Rs.nil _ _, HI.out⟩
     case round =>
      clear HO HI
      obtain ⟨recs, used, rv, hO, hrv, hI⟩ := hrel
      have HO := hide hO
      have HRV := hide hrv
      have HI := hide hI
      obtain ⟨A3, m3, c3, rfl, hm3, _, _⟩ := hrv.formN
      have HM3 : Hid (m3 = recs.length) := hm3
      have HIB : Hid (used ≤ half D ∧ recs.length + 1 ≤ used) := hide (by obtain ⟨f, pre, h1, h2, h3, h4, h5, h6⟩ := hI; exact ⟨h5, h6⟩)
      have HML : Hid (recs.length ≤ 1000000) := hide (by have := HIB.out; have := HH.out; omega)
      obtain ⟨zu, hzu⟩ : ∃ z : Int, (used : Int) = z := ⟨_, rfl⟩
      have HZU := hide hzu
      have u0 : 0 ≤ zu := by omega
      have u5 : zu ≤ 5000 := by have := HIB.out; have := HH.out; omega
      have m5 : m3 ≤ 5000 := by have := HIB.out; have := HH.out; have := HM3.out; omega
      have HBB : Hid (∀ X : World, Below w.heap.size w X → Calls Tryz.prog 84 #[.agg ([.slice A n c, .slice B m b, .int .i64 fz, .bool fl] : List Value).toArray, .int .i64 zt, .int .i64 ((m3 : Int) + 1), .int .i64 zu] X (Gives X (rblkV (blk D t (recs.length + 1) used)))) := hide (fun X hX => by
       have := HBC.out t (recs.length + 1) used (by have := HTB.out; omega) (by have := HM3.out; omega) (by have := HZU.out; omega) X hX
       rw [HZ.out.1, HZU.out] at this
       have e : ((recs.length + 1 : Nat) : Int) = (m3 : Int) + 1 := by have := HM3.out; omega
       rwa [e] at this)
      rw [hzu] at HO
      clear hO hrv hI hm3 hzu
      have HM7 : Hid (wr.cell? ⟨b10, 7, none⟩ = some (.int .i64 zu)) := hide (HO.out.cells 3 rfl 7)
      have k10 := HO.out.cells 3 rfl
      have HWS := hide HO.out.size
      go_wp2_with (first
       | ((with_reducible refine at_load 32 (.tmp 1) ?_); refine wpList_load_own HO.out rfl 32 (.tmp 1) rfl 0 _ 0 4 _ _ ([.slice A n c, .slice B m b, .int .i64 fz, .bool fl]) _ rfl (take_all rfl) rfl Tryz.underlying32 rfl rdisk_size ?_))
      refine (HBB.out _ HO.out.below).mono ?_
      rintro e w9 ⟨rfl, hb9⟩
      replace HO := hide (HO.out.step hb9)
      replace HRV := hide (HRV.out.step hb9)
      clear hb9 HBB k10
      have k10 := HO.out.cells 3 rfl
      unfold rblkV
      cases hbk : blk D t (recs.length + 1) used with
      | none =>
       have HD := hide (RecI.done HI.out hbk HT0.out)
       dsimp only [Option.map, Option.getD]
       clear hbk HI
       go_wp2_with (first
 | ((with_reducible refine at_load 51 (.tmp 10) ?_); refine wpList_load_own HO.out rfl 51 (.tmp 10) rfl 3 _ 0 9 _ _ ([.slice A n c, .slice B m b, .int .i64 fz, .bool fl, .int .i64 zt, sv s, (.slice A3 m3 c3), .int .i64 zu, .bool false]) _ rfl (take_all rfl) rfl Tryz.underlying51 rfl rjr_size ?_)
 | ((with_reducible refine at_store 51 (.tmp 3) ?_); refine wpList_store_own_t HO.out rfl 51 (.tmp 3) (.tmp 72) rfl 2 _ 0 _ _ ([.slice A n c, .slice B m b, .int .i64 fz, .bool fl, .int .i64 zt, sv s, (.slice A3 m3 c3), .int .i64 zu, .bool false]) ([.slice A n c, .slice B m b, .int .i64 fz, .bool fl, .int .i64 zt, sv s, (.slice A3 m3 c3), .int .i64 zu, .bool false]) rfl (.agg ([.slice A n c, .slice B m b, .int .i64 fz, .bool fl, .int .i64 zt, sv s, (.slice A3 m3 c3), .int .i64 zu, .bool false] : List Value).toArray) rfl rfl (fits_agg _) (by simp) (splice_all rfl) rjr_size rfl ?_; intro WA hO _ ht; replace HRV := hide (HRV.out.touch ht (fun j hj hm => by simp at hm; have := (HRV.out.lt j hj).1; have := H310.out; omega)); replace HO := hide hO; clear hO ht))
       go_roundw
       case rel =>
        refine ⟨k + 1, .slice A3 m3 c3, by omega, by go_num, ?_, ?_⟩
        ·rw [HE.out, HD.out]
         have := HO.out.sub (M := [(b1, 32, [.slice A n c, .slice B m b, .int .i64 fz, .bool fl]), (b2, 51, zjr), (b3, 51, [.slice A n c, .slice B m b, .int .i64 fz, .bool fl, .int .i64 zt, sv s, (.slice A3 m3 c3), .int .i64 zu, .bool false])]) (by simp)
         rw [← HZ.out.1, ← HZU.out] at this
         exact this
        ·rw [HE.out, HD.out]
         exact HRV.out.mono (by have := H310.out; omega)
       case measure => simp [intOf]; omega
      | some y =>
       obtain ⟨x, n2⟩ := y
       have HI2 := hide (RecI.next HI.out hbk)
       have hp2 := blk_pos hbk
       dsimp only [Option.map, Option.getD]
       obtain ⟨zn2, hzn2⟩ : ∃ z : Int, (n2 : Int) = z := ⟨_, rfl⟩
       have HZN2 := hide hzn2
       have q0 : 1 ≤ zn2 := by omega
       have q5 : zu + zn2 ≤ 5000 := by have := HZU.out; have := HH.out; omega
       have hne2 : (zn2 == 0) = false := by simpa using (by omega : zn2 ≠ 0)
       have HSZ : Hid (b10 + 1 ≤ w9.heap.size) := hide (HO.out.blk 3 rfl).lt
       rw [hzn2]
       clear hbk hp2 hzn2 HI
       obtain ⟨X, hX⟩ : ∃ X : ByteArray, sv x = .string X := ⟨_, rfl⟩
       have HXX := hide hX
       rw [hX]
       clear hX
       have k61 : ∀ j, (w9.alloc (.cells #[] 9)).cell? ⟨b10, j, none⟩ = ([.slice A n c, .slice B m b, .int .i64 fz, .bool fl, .int .i64 zt, sv s, (.slice A3 m3 c3), .int .i64 zu, .bool false] : List Value)[j]? := (HO.out.alloc _).cells 3 rfl
       go_wp2_with (first
 | (at_builtin; refine wpList_append_copy rfl _ _ rfl (vx := .slice A3 m3 c3) rfl rfl rfl HRV.out HML.out ?_; intro v1 W1 hr1 hb1; have HR1 := hide hr1; have HB1 := hide hb1; clear hr1 hb1)
 | (at_builtin; refine wpList_append_one rfl _ _ rfl (v := v1) HXX.out.symm rfl HR1.out HB1.out.size rfl rfl HML.out ?_; intro v2 W2 hr2 hb2; have HR2 : Hid (Rs W2 (b10 + 1) v2 _) := hide (hr2.mono HSZ.out); replace HO := hide (HO.out.step (HB1.out.trans hb2)); clear hr2 hb2)
 | ((with_reducible refine at_store 49 (.tmp 66) ?_); refine wpList_store_own_t HO.out rfl 49 (.tmp 66) (.tmp 65) rfl 3 _ 6 _ _ ([v2]) ([.slice A n c, .slice B m b, .int .i64 fz, .bool fl, .int .i64 zt, sv s, v2, .int .i64 zu, .bool false]) rfl v2 rfl rfl (fits_one HR2.out.one) (by simp) rfl rstr_size (by simp [HR2.out.one]) ?_; intro WA hO _ ht; replace HR2 := hide (HR2.out.touch ht (fun j hj hm => by simp at hm; have := (HR2.out.lt j hj).1; omega)); replace HO := hide hO; clear hO ht; have k10 := HO.out.cells 3 rfl)
 | ((with_reducible refine at_store 3 (.tmp 71) ?_); refine wpList_store_own_t HO.out rfl 3 (.tmp 71) (.tmp 70) rfl 3 _ 7 _ _ ([.int .i64 (zu + zn2)]) ([.slice A n c, .slice B m b, .int .i64 fz, .bool fl, .int .i64 zt, sv s, v2, .int .i64 (zu + zn2), .bool false]) rfl (.int .i64 (zu + zn2)) rfl rfl (fits_one rfl) (by simp) rfl rint_size rfl ?_; intro WA hO _ ht; replace HR2 := hide (HR2.out.touch ht (fun j hj hm => by simp at hm; have := (HR2.out.lt j hj).1; omega)); replace HO := hide hO; clear hO ht))
       try simp only [Act.put, qa, qb, qc, qd, qe, qf]
       go_roundw
       case rel => exact ⟨recs ++ [x], used + n2, v2, by have := HO.out; rw [← HZU.out, ← HZN2.out] at this; exact this, HR2.out, HI2.out⟩
       case measure => (have e1 := HO.out.cells 3 rfl 7; have e2 := HM7.out; simp [e1, e2, intOf]; omega)
  ·obtain rfl : k = 2 := by omega
   obtain ⟨zf, hzf⟩ : ∃ z : Int, ((findK D 2 : Nat) : Int) = z := ⟨_, rfl⟩
   obtain ⟨sf, hsf⟩ : ∃ x, (jOf D (findK D 2)).state = x := ⟨_, rfl⟩
   obtain ⟨uf, huf⟩ : ∃ x : Int, ((jOf D (findK D 2)).used : Int) = x := ⟨_, rfl⟩
   obtain ⟨bf, hbf⟩ : ∃ x, (jOf D (findK D 2)).broken = x := ⟨_, rfl⟩
   have HBACK : Hid ([.slice A n c, .slice B m b, .int .i64 fz, .bool fl, .int .i64 (findK D 2 : Nat), sv (jOf D (findK D 2)).state, rvb, .int .i64 ((jOf D (findK D 2)).used : Nat), .bool ((jOf D (findK D 2)).broken)] = ([.slice A n c, .slice B m b, .int .i64 fz, .bool fl, .int .i64 zf, sv sf, rvb, .int .i64 uf, .bool bf] : List Value)) := hide (by rw [hzf, hsf, huf, hbf])
   have HFIN : Hid (([.slice A n c, .slice B m b, .int .i64 fz, .bool fl, .int .i64 (jFind D).turn, sv (jFind D).state, rvb, .int .i64 (jFind D).used, .bool ((jFind D).broken)] : List Value) = [.slice A n c, .slice B m b, .int .i64 fz, .bool fl, .int .i64 zf, sv sf, rvb, .int .i64 uf, .bool bf]) := hide (by
    rw [← HBACK.out, jFind_of, jOf_turn]
    rfl)
   have HRV : Hid (Rs wr (b3 + 1) rvb (jFind D).records) := HRB
   rw [HBACK.out] at HO
   clear hzf hsf huf hbf HBACK HRB
   go_wp2_with (first
 | ((with_reducible refine at_load 51 (.tmp 3) ?_); refine wpList_load_own HO.out rfl 51 (.tmp 3) rfl 2 _ 0 9 _ _ ([.slice A n c, .slice B m b, .int .i64 fz, .bool fl, .int .i64 zf, sv sf, rvb, .int .i64 uf, .bool bf]) _ rfl (take_all rfl) rfl Tryz.underlying51 rfl rjr_size ?_)
 | ((with_reducible refine at_store 51 (.tmp 2) ?_); refine wpList_store_own_t HO.out rfl 51 (.tmp 2) (.tmp 73) rfl 1 _ 0 _ _ ([.slice A n c, .slice B m b, .int .i64 fz, .bool fl, .int .i64 zf, sv sf, rvb, .int .i64 uf, .bool bf]) ([.slice A n c, .slice B m b, .int .i64 fz, .bool fl, .int .i64 zf, sv sf, rvb, .int .i64 uf, .bool bf]) rfl (.agg ([.slice A n c, .slice B m b, .int .i64 fz, .bool fl, .int .i64 zf, sv sf, rvb, .int .i64 uf, .bool bf] : List Value).toArray) rfl rfl (fits_agg _) (by simp [zjr]) (splice_all rfl) rjr_size (by have h1 := HRV.out.one; simp only [List.all_cons, List.all_nil, h1]; rfl) ?_; intro WA hO _ ht; replace HRV := hide (HRV.out.touch ht (fun j hj hm => by simp at hm; have := (HRV.out.lt j hj).1; have := H23.out; omega)); replace HO := hide hO; clear hO ht))
   refine bodyPost_ret (results_row rfl _ HO.out 1 _ _ _ _ rfl rfl Tryz.underlying51 rfl rjr_size) rfl ?_
   exact ⟨rvb, by rw [HFIN.out], HRV.out.mono (by have := H23.out; have := HW2.out; omega), HO.out.below⟩
end Go.Proofs.YtpadgkkeihhneaaGreat
