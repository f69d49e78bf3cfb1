/- Messages between hosts and clients as rows of cells: their zero, and how one is built. -/
import Derived.Test.YtpbgelhjbfckcaaV01
import Derived.Great.FillDense
import Derived.Maps.OwnSet
import Derived.Maps.RangeWalk
namespace Go.Proofs.Ytpbgelhjbfckcaa
set_option linter.unusedVariables false
set_option linter.unusedSimpArgs false
section
open Go.ChangeShapes Go.WideShapes Go.ChangeAt Go.RowKit
abbrev zi : Value := .int .i64 0
abbrev zs : Value := .string ⟨#[]⟩
abbrev zl : Value := .slice none 0 0
abbrev zb0 : Value := .bool false
/-- The cells of a message of zeros. -/
def zmsg : List Value := [zi, zi, zi, zi, zi, zs, zi, zi, zi, zi, zi, zl, zl, zi, zi, zi, zi, zi, zi, zi, zi, zi, zi, zi, zi, zi, zl, zl, zl, zl, zl, zl, zl, zl, zi, zi, zi, zi, zi, zi, zi, zi, zb0, zl, zi, zs, zb0]
theorem info_msg : (Try.prog.info? 41).map (fun i => (i.zero, i.size)) = some (some (.agg zmsg.toArray), 47) := by kernel_rfl
theorem info_out : (Try.prog.info? 59).map (fun i => (i.zero, i.size)) = some (some (.agg (zi :: zmsg).toArray), 48) := by kernel_rfl
theorem built_zero : Try.prog.built 41 [] = some zmsg.toArray := by kernel_rfl
theorem built_out0 : Try.prog.built 59 [] = some (zi :: zmsg).toArray := by kernel_rfl
theorem built_client (a b : Int) : Try.prog.built 74 [(0, .int .i64 a), (1, .int .i64 b), (2, .int .i64 1)] = some #[.int .i64 a, .int .i64 b, .int .i64 1, zi, .pointer none] := by kernel_rfl
theorem fill_out (Z : Array Value) (hZ : Z.size = 48) (n : Int) (cs : List Value) (h : cs.length = 47) (place : Nat → Option (Nat × Nat)) (p0 : place 0 = some (0, 1)) (p1 : place 1 = some (1, 47)) :
 Instr.fill place Z [(0, .int .i64 n), (1, .agg cs.toArray)] = some (.int .i64 n :: cs).toArray := by
 have e1 : (Value.int .i64 n).cells = #[.int .i64 n] := rfl
 have e2 : (Value.agg cs.toArray).cells = cs.toArray := rfl
 simp only [Instr.fill, p0, p1, e1, e2]
 have f0 := Go.Great.foldl_set 0 [.int .i64 n] 0 Z
 generalize hz1 : ((#[Value.int .i64 n].zipIdx).foldl (fun cs (x : Value × Nat) => cs.setIfInBounds (0 + x.2) x.1) Z) = Z1
 have hz1' : (([Value.int .i64 n].zipIdx 0).foldl (fun cs (x : Value × Nat) => cs.setIfInBounds (0 + x.2) x.1) Z) = Z1 := by rw [← hz1]; simp
 rw [hz1'] at f0
 have f1 := Go.Great.foldl_set 1 cs 0 Z1
 generalize hz2 : ((cs.toArray.zipIdx).foldl (fun cs (x : Value × Nat) => cs.setIfInBounds (1 + x.2) x.1) Z1) = Z2
 have hz2' : ((cs.zipIdx 0).foldl (fun cs (x : Value × Nat) => cs.setIfInBounds (1 + x.2) x.1) Z1) = Z2 := by rw [← hz2]; simp
 rw [hz2'] at f1
 rw [if_neg (by simp [hZ]), if_neg (by simp [f0.1, hZ, h])]
 congr 1
 apply Array.ext_getElem?
 intro i
 rw [f1.2 i]
 rcases Nat.eq_zero_or_pos i with rfl | hi
 ·rw [if_neg (by omega), f0.2 0, if_pos (by simp [hZ])]; rfl
 ·obtain ⟨j, rfl⟩ : ∃ j, i = j + 1 := ⟨i - 1, by omega⟩
  by_cases hj : j < 47
  ·rw [if_pos (by rw [f0.1, hZ]; omega)]
   simp
  ·rw [if_neg (by omega), Array.getElem?_eq_none (by rw [f0.1, hZ]; omega), Array.getElem?_eq_none (by simp; omega)]
set_option maxRecDepth 100000 in
/-- A message with its endpoint. -/
theorem built_out (n : Int) (cs : List Value) (h : cs.length = 47) : Try.prog.built 59 [(0, .int .i64 n), (1, .agg cs.toArray)] = some (.int .i64 n :: cs).toArray := by
 have hI := info_out
 obtain ⟨i0, hi0, hz⟩ := Option.map_eq_some_iff.mp hI
 injection hz with hz0 hz1
 unfold Program.built
 rw [hi0, Try.underlying59]
 simp only [hz0]
 have hp : ∀ fs, Try.prog.underlying 59 = some (.struct fs) → (fs.toList.mapM (fun f => (Try.prog.info? f.type).map fun i => (f.offset, i.size))) = some [(0, 1), (1, 47)] := by
  intro fs hfs
  rw [Try.underlying59] at hfs
  injection hfs with hfs
  injection hfs with hfs
  subst hfs
  kernel_rfl
 rw [hp _ Try.underlying59]
 exact fill_out _ (by simp [Value.cells, zmsg]) n cs h _ rfl rfl
end
section
open List renaming getElem_toArray → qa, getElem_cons_zero → qb, getElem_cons_succ → qc, setIfInBounds_toArray → qd, set_cons_zero → qe, set_cons_succ → qf
open Go.ChangeShapes Go.WideShapes Go.ChangeAt Go.RowKit
theorem below_drew (w : World) : Below w.heap.size w w.drew := (Below.refl _ _).drew
/-- A field as cells: four functions, each with what it has captured. -/
def fv (w r z v : FuncId) (cw cr cz cv : List Value) : List Value := [.func (.func w) #[] cw.toArray, .func (.func r) #[] cr.toArray, .func (.func z) #[] cz.toArray, .func (.func v) #[] cv.toArray]
def zfield : List Value := [.nilFunc, .nilFunc, .nilFunc, .nilFunc]
abbrev at0 (b : Nat) : Value := .pointer (some ⟨b, 0, none⟩)
theorem info_field : (Try.prog.info? 101).map (·.zero) = some (some (.agg zfield.toArray)) := by kernel_rfl
theorem size_field : (Try.prog.info? 101).map (·.size) = some 4 := by kernel_rfl
theorem built_field (w r z v : FuncId) (cw cr cz cv : List Value) : Try.prog.built 101 [(0, .func (.func w) #[] cw.toArray), (1, .func (.func r) #[] cr.toArray), (2, .func (.func z) #[] cz.toArray), (3, .func (.func v) #[] cv.toArray)] = some (fv w r z v cw cr cz cv).toArray := by kernel_rfl
theorem any_c (w : World) : Calls Try.prog 70 #[] w fun e w' => e = .returned (.bool true) ∧ w = w' := by
 go_enter Try.func70, Try.ntmps70
 go_wp2_with fail
 go_ret
 exact ⟨rfl, rfl⟩
theorem nzero_c (bp b o : Nat) (x : Int) (w : World) (h1 : w.cell? ⟨bp, 0, none⟩ = some (.pointer (some ⟨b, o, none⟩))) (h2 : w.cell? ⟨b, o, none⟩ = some (.int .i64 x)) :
 Calls Try.prog 90 #[at0 bp] w fun e w' => e = .returned (.bool (decide (x = 0))) ∧ w = w' := by
 go_enter Try.func90, Try.ntmps90
 go_wp2_with fail
 go_ret
 exact ⟨by simp [BEq.beq], rfl⟩
theorem nvalid_c (bp bl bh b o : Nat) (x lo hi : Int) (w : World) (h1 : w.cell? ⟨bp, 0, none⟩ = some (.pointer (some ⟨b, o, none⟩))) (h2 : w.cell? ⟨b, o, none⟩ = some (.int .i64 x))
 (h3 : w.cell? ⟨bl, 0, none⟩ = some (.int .i64 lo)) (h4 : w.cell? ⟨bh, 0, none⟩ = some (.int .i64 hi)) :
 Calls Try.prog 91 #[at0 bp, at0 bl, at0 bh] w fun e w' => e = .returned (.bool (decide (lo ≤ x) && decide (x ≤ hi))) ∧ Below w.heap.size w w' := by
 cases hc : decide (lo ≤ x) with
 | true =>
  go_enter Try.func91, Try.ntmps91
  go_wp2_with fail
  refine wp_region_held_drew (S := fun W => W.cell? ⟨bp, 0, none⟩ = some (.pointer (some ⟨b, o, none⟩)) ∧ W.cell? ⟨b, o, none⟩ = some (.int .i64 x) ∧ W.cell? ⟨bl, 0, none⟩ = some (.int .i64 lo) ∧ W.cell? ⟨bh, 0, none⟩ = some (.int .i64 hi)) (by kernel_rfl) (⟨h1, h2, h3, h4⟩) (fun hS0 => ?_)
  refine tk 0 ?_;refine tk 1 ?_;refine tk 2 ?_;refine tk 3 ?_;refine tk 4 ?_;refine tk 5 ?_;refine tk 6 ?_;refine tk 7 ?_;refine tk 8 ?_;refine tk 9 ?_;refine tk 10 ?_;refine tk 11 ?_;refine tk 12 ?_
  refine wpAnyH_done (by kernel_rfl) ?_ _
  clear hS0
  go_wp2_with fail
  go_ret
  exact ⟨by simp, below_drew _⟩
 | false =>
  go_enter Try.func91, Try.ntmps91
  go_wp2_with fail
  refine wp_region_held_drew (S := fun W => W.cell? ⟨bp, 0, none⟩ = some (.pointer (some ⟨b, o, none⟩)) ∧ W.cell? ⟨b, o, none⟩ = some (.int .i64 x) ∧ W.cell? ⟨bl, 0, none⟩ = some (.int .i64 lo) ∧ W.cell? ⟨bh, 0, none⟩ = some (.int .i64 hi)) (by kernel_rfl) (⟨h1, h2, h3, h4⟩) (fun hS0 => ?_)
  refine tk 0 ?_;refine tk 1 ?_;refine tk 2 ?_;refine tk 3 ?_;refine tk 4 ?_;refine tk 5 ?_;refine tu 6 ?_;refine tu 7 ?_;refine tu 8 ?_;refine tu 9 ?_;refine tu 10 ?_;refine tk 11 ?_;refine tk 12 ?_
  refine wpAnyH_done (by kernel_rfl) ?_ _
  clear hS0
  go_wp2_with fail
  go_ret
  exact ⟨by simp, below_drew _⟩
end
section
open Go.ChangeShapes Go.WideShapes Go.ChangeAt Go.RowKit
theorem own_boxes2 (w : World) (p x : Value) (tp tx : TypeId) : Own w [] [(w.heap.size, tp, [p]), (w.heap.size + 1, tx, [x])] ((w.alloc (.cells #[p] tp)).alloc (.cells #[x] tx)) := by
 have h1 := (Own.nil w [] (by simp)).push (t := tp) (cs := [p]) (Blk.new w tp #[p]) ((Below.refl _ _).alloc (Nat.le_refl _) _)
 have h2 := h1.push (t := tx) (cs := [x]) (Blk.new _ tx #[x]) ((Below.refl _ _).alloc (Nat.le_refl _) _)
 simpa using h2
theorem own_boxes3 (w : World) (p x y : Value) (tp tx ty : TypeId) : Own w [] [(w.heap.size, tp, [p]), (w.heap.size + 1, tx, [x]), (w.heap.size + 1 + 1, ty, [y])] (((w.alloc (.cells #[p] tp)).alloc (.cells #[x] tx)).alloc (.cells #[y] ty)) := by
 have h3 := (own_boxes2 w p x tp tx).push (t := ty) (cs := [y]) (Blk.new _ ty #[y]) ((Below.refl _ _).alloc (Nat.le_refl _) _)
 simpa using h3
/-- What number hands back. -/
def NumR (w : World) (p : Value) (lo hi : Int) (e : Ending) (w' : World) : Prop := ∃ bp bl bh, e = .returned (.agg (fv 88 89 90 91 [at0 bp] [at0 bp] [at0 bp] [at0 bp, at0 bl, at0 bh]).toArray) ∧ Own w [] [(bp, 121, [p]), (bl, 3, [.int .i64 lo]), (bh, 3, [.int .i64 hi])] w'
theorem number_cV (q : Option Addr) (lo hi : Int) (w : World) : Calls Try.prog 60 #[.pointer q, .int .i64 lo, .int .i64 hi] w (NumR w (.pointer q) lo hi) := by
 have hmf : ∀ (fn : Fn) (first cap : Array Value) (w : World), (Instr.makeFunc fn first cap).run Try.prog w = .ok (.func fn first cap) w := fun _ _ _ _ => rfl
 have HO := hide (own_boxes3 w (.pointer q) (.int .i64 lo) (.int .i64 hi) 121 3 3)
 go_enter Try.func60, Try.ntmps60
 go_wp2_with (first
  | ((with_reducible refine at_alloc 101 ?_); refine wpList_alloc_own HO.out rfl 101 rfl zfield info_field ?_; intro WA b hO; replace HO := hide hO; clear hO)
  | ((with_reducible refine at_store 101 (.tmp 6) ?_); refine wpList_store_own HO.out rfl 101 (.tmp 6) (.tmp 11) rfl 3 _ 0 _ _ (fv 88 89 90 91 [at0 w.heap.size] [at0 w.heap.size] [at0 w.heap.size] [at0 w.heap.size, at0 (w.heap.size + 1), at0 (w.heap.size + 1 + 1)]) (fv 88 89 90 91 [at0 w.heap.size] [at0 w.heap.size] [at0 w.heap.size] [at0 w.heap.size, at0 (w.heap.size + 1), at0 (w.heap.size + 1 + 1)]) rfl _ rfl rfl (fits_agg _) (by simp [fv, zfield]) rfl size_field rfl ?_; intro WA hO; replace HO := hide hO; clear hO))
 refine bodyPost_ret (v := .agg (fv 88 89 90 91 [at0 w.heap.size] [at0 w.heap.size] [at0 w.heap.size] [at0 w.heap.size, at0 (w.heap.size + 1), at0 (w.heap.size + 1 + 1)]).toArray) (results_cell_row rfl _ _ b 101 _ (0, 0) _ rfl (HO.out.blk 3 rfl) Try.underlying101 rfl size_field) rfl ?_
 exact ⟨_, _, _, rfl, HO.out.sub (by simp)⟩
/-- What parts hands back. -/
def PartsR (w : World) (vn vl : Value) (e : Ending) (w' : World) : Prop := ∃ bn bl, e = .returned (.agg (fv 82 84 86 70 [at0 bn, at0 bl] [at0 bn, at0 bl] [at0 bn, at0 bl] []).toArray) ∧ Own w [] [(bn, 125, [vn]), (bl, 127, [vl])] w'
theorem parts_c (A : Option Addr) (n c : Nat) (B : Option Addr) (m k : Nat) (w : World) : Calls Try.prog 51 #[.slice A n c, .slice B m k] w (PartsR w (.slice A n c) (.slice B m k)) := by
 have hmf : ∀ (fn : Fn) (first cap : Array Value) (w : World), (Instr.makeFunc fn first cap).run Try.prog w = .ok (.func fn first cap) w := fun _ _ _ _ => rfl
 have HO := hide (own_boxes2 w (.slice A n c) (.slice B m k) 125 127)
 go_enter Try.func51, Try.ntmps51
 go_wp2_with (first
  | ((with_reducible refine at_alloc 101 ?_); refine wpList_alloc_own HO.out rfl 101 rfl zfield info_field ?_; intro WA b hO; replace HO := hide hO; clear hO)
  | ((with_reducible refine at_store 101 (.tmp 4) ?_); refine wpList_store_own HO.out rfl 101 (.tmp 4) (.tmp 8) rfl 2 _ 0 _ _ (fv 82 84 86 70 [at0 w.heap.size, at0 (w.heap.size + 1)] [at0 w.heap.size, at0 (w.heap.size + 1)] [at0 w.heap.size, at0 (w.heap.size + 1)] []) (fv 82 84 86 70 [at0 w.heap.size, at0 (w.heap.size + 1)] [at0 w.heap.size, at0 (w.heap.size + 1)] [at0 w.heap.size, at0 (w.heap.size + 1)] []) rfl _ rfl rfl (fits_agg _) (by simp [fv, zfield]) rfl size_field rfl ?_; intro WA hO; replace HO := hide hO; clear hO))
 refine bodyPost_ret (v := .agg (fv 82 84 86 70 [at0 w.heap.size, at0 (w.heap.size + 1)] [at0 w.heap.size, at0 (w.heap.size + 1)] [at0 w.heap.size, at0 (w.heap.size + 1)] []).toArray) (results_cell_row rfl _ _ b 101 _ (0, 0) _ rfl (HO.out.blk 2 rfl) Try.underlying101 rfl size_field) rfl ?_
 exact ⟨_, _, rfl, HO.out.sub (by simp)⟩
/-- A slice of pointers into the block b. -/
def Ptrs (w : World) (v : Value) (b : Nat) (offs : List Nat) : Prop := ∃ A c, v = .slice A offs.length c ∧ offs.length ≤ c ∧ c ≤ maxLen ∧ (0 < offs.length → ∃ g o, A = some ⟨g, o, none⟩ ∧ ∀ i (h : i < offs.length), w.cell? ⟨g, o + i, none⟩ = some (.pointer (some ⟨b, offs[i], none⟩)))
theorem Ptrs.nil (w : World) (b : Nat) : Ptrs w (.slice none 0 0) b [] := ⟨none, 0, rfl, Nat.le_refl _, by unfold maxLen; omega, fun h => by simp at h⟩
theorem Ptrs.form {w : World} {v : Value} {b : Nat} {offs : List Nat} (h : Ptrs w v b offs) : ∃ A n c, v = .slice A n c ∧ Hid (n = offs.length) ∧ n ≤ c ∧ c ≤ 9223372036854775807 := by
 obtain ⟨A, c, e, h1, h2, _⟩ := h; exact ⟨A, _, c, e, rfl, h1, by unfold maxLen at h2; omega⟩
theorem Ptrs.at_ {w : World} {A : Option Addr} {n c b : Nat} {offs : List Nat} (h : Ptrs w (.slice A n c) b offs) (i : Nat) (hi : i < offs.length) : ∃ g o, A = some ⟨g, o, none⟩ ∧ w.cell? ⟨g, o + i, none⟩ = some (.pointer (some ⟨b, offs[i], none⟩)) := by
 obtain ⟨A', c', e, h1, h2, h3⟩ := h
 obtain ⟨rfl, rfl, rfl⟩ : A = A' ∧ n = offs.length ∧ c = c' := by injection e with e1 e2 e3; exact ⟨e1, e2, e3⟩
 obtain ⟨g, o, rfl, hc⟩ := h3 (by omega)
 exact ⟨g, o, rfl, hc i hi⟩
/-- The numbers at some places of a row; the lengths of the lists there. -/
def numAt (cs : List Value) (o : Nat) : Int := match cs[o]? with | some (.int _ x) => x | _ => 0
def lenAt (cs : List Value) (o : Nat) : Nat := match cs[o]? with | some (.slice _ n _) => n | _ => 0
def zeroP (cs : List Value) (ns ls : List Nat) : Bool := ns.all (fun o => numAt cs o == 0) && ls.all (fun o => lenAt cs o == 0)
theorem all_snoc {p : Nat → Bool} {l : List Nat} {k : Nat} (hk : k < l.length) (hz : (l.take k).all p = true) (h : p l[k] = true) : (l.take (k + 1)).all p = true := by
 rw [List.take_add_one, List.getElem?_eq_getElem hk, List.all_append, hz]
 simp [h]
set_option maxHeartbeats 2000000 in
theorem pzero_c (bn bl b : Nat) (vn vl : Value) (ns ls : List Nat) (cs : List Value) (w : World) (h1 : w.cell? ⟨bn, 0, none⟩ = some vn) (h2 : w.cell? ⟨bl, 0, none⟩ = some vl) (hn : Ptrs w vn b ns) (hl : Ptrs w vl b ls)
 (hc : ∀ o, w.cell? ⟨b, o, none⟩ = cs[o]?) (hns : ∀ o ∈ ns, ∃ x, cs[o]? = some (.int .i64 x)) (hls : ∀ o ∈ ls, ∃ A n c, cs[o]? = some (.slice A n c)) :
 Calls Try.prog 86 #[at0 bn, at0 bl] w fun e w' => e = .returned (.bool (zeroP cs ns ls)) ∧ w = w' := by
 obtain ⟨A, n, c, rfl, hnn, hnc, hcm⟩ := hn.form
 obtain ⟨B, m, d, rfl, hmm, hmd, hdm⟩ := hl.form
 have HN := hide hn;have HL := hide hl;have HNS := hide hns;have HLS := hide hls;have HC := hide hc;clear hn hl hns hls hc
 go_enter Try.func86, Try.ntmps86
 go_wp2_with fail
 go_loopw [9] (fun v9 wr => w = wr ∧ ∃ k : Nat, v9 = .int .i64 k ∧ k ≤ n ∧ (ns.take k).all (fun o => numAt cs o == 0) = true) (fun v9 _ => n - (intOf v9).toNat)
 case atStart => exact ⟨rfl, 0, rfl, Nat.zero_le _, rfl⟩
 case round =>
  obtain ⟨rfl, k, rfl, hk, hz⟩ := hrel
  by_cases hlt : k < n
  ·have hkl : k < ns.length := by rw [← hnn.out]; exact hlt
   obtain ⟨g, o, rfl, hcp⟩ := HN.out.at_ k hkl
   obtain ⟨x, hx⟩ := HNS.out ns[k] (List.getElem_mem hkl)
   have hx2 : w.cell? ⟨b, ns[k], none⟩ = some (.int .i64 x) := (HC.out _).trans hx
   have hnx : numAt cs ns[k] = x := by unfold numAt; rw [hx]
   have hki : (k : Int) < (n : Int) := by omega
   have HLT := hide hlt
   have HZ : Hid (x = 0 → (ns.take (k + 1)).all (fun o => numAt cs o == 0) = true) := hide (fun h => all_snoc hkl hz (by simp [hnx, h]))
   have HX : Hid (x ≠ 0 → zeroP cs ns ls = false) := hide (fun h => by
    unfold zeroP
    have : ns.all (fun o => numAt cs o == 0) = false := by
     rw [List.all_eq_false]
     exact ⟨ns[k], List.getElem_mem hkl, by simp [hnx, h]⟩
    rw [this]; rfl)
   generalize ns[k] = ok at *
   clear hz hnx hx hkl hlt
   by_cases h0 : x = 0
   ·subst h0
    go_wp2_with fail
    go_roundw
    case rel => exact ⟨trivial, k + 1, by go_num, HLT.out, HZ.out rfl⟩
    case measure => have := HLT.out; simp [intOf]; omega
   ·go_wp2_with fail
    go_ret
    exact ⟨by rw [HX.out h0]; rfl, rfl⟩
  ·obtain rfl : k = n := by omega
   have HZ1 : Hid (ns.all (fun o => numAt cs o == 0) = true) := hide (by rw [hnn.out, List.take_length] at hz; exact hz)
   clear hz hk hlt
   go_wp2_with fail
   go_loopw [20] (fun v9 wr => w = wr ∧ ∃ j : Nat, v9 = .int .i64 j ∧ j ≤ m ∧ (ls.take j).all (fun o => lenAt cs o == 0) = true) (fun v9 _ => m - (intOf v9).toNat)
   case atStart => exact ⟨rfl, 0, rfl, Nat.zero_le _, rfl⟩
   case round =>
    obtain ⟨rfl, j, rfl, hj, hz⟩ := hrel
    by_cases hlt : j < m
    ·have hkl : j < ls.length := by rw [← hmm.out]; exact hlt
     obtain ⟨g, o, rfl, hcp⟩ := HL.out.at_ j hkl
     obtain ⟨Ax, nx, cx, hx⟩ := HLS.out ls[j] (List.getElem_mem hkl)
     have hx2 : w.cell? ⟨b, ls[j], none⟩ = some (.slice Ax nx cx) := (HC.out _).trans hx
     have hnx : lenAt cs ls[j] = nx := by unfold lenAt; rw [hx]
     have hki : (j : Int) < (m : Int) := by omega
     have HLT := hide hlt
     have HZ : Hid (nx = 0 → (ls.take (j + 1)).all (fun o => lenAt cs o == 0) = true) := hide (fun h => all_snoc hkl hz (by simp [hnx, h]))
     have HX : Hid (nx ≠ 0 → zeroP cs ns ls = false) := hide (fun h => by
      unfold zeroP
      have : ls.all (fun o => lenAt cs o == 0) = false := by
       rw [List.all_eq_false]
       exact ⟨ls[j], List.getElem_mem hkl, by simp [hnx, h]⟩
      rw [this]; simp)
     generalize ls[j] = ok at *
     clear hz hnx hx hkl hlt
     by_cases h0 : nx = 0
     ·subst h0
      go_wp2_with fail
      go_roundw
      case rel => exact ⟨trivial, j + 1, by go_num, HLT.out, HZ.out rfl⟩
      case measure => have := HLT.out; simp [intOf]; omega
     ·have h0i : (0 : Int) < (nx : Int) := by omega
      go_wp2_with fail
      go_ret
      exact ⟨by rw [HX.out h0]; rfl, rfl⟩
    ·obtain rfl : j = m := by omega
     have HZ2 : Hid (zeroP cs ns ls = true) := hide (by unfold zeroP; rw [HZ1.out]; rw [hmm.out, List.take_length] at hz; rw [hz]; rfl)
     clear hz hj hlt
     go_wp2_with fail
     go_ret
     exact ⟨by rw [HZ2.out]; rfl, rfl⟩
end
section
open Go.ChangeShapes Go.WideShapes Go.ChangeAt Go.RowKit
theorem ba_empty (s : ByteArray) : s.toList.isEmpty = decide (s.size = 0) := by
 rw [ByteArray.toList_eq]
 obtain ⟨a⟩ := s
 show a.toList.isEmpty = decide (a.size = 0)
 rw [Array.size_eq_length_toList]
 cases a.toList <;> simp
theorem bzero_c (bm b : Nat) (s : ByteArray) (w : World) (h1 : w.cell? ⟨bm, 0, none⟩ = some (at0 b)) (h2 : w.cell? ⟨b, 5, none⟩ = some (.string s)) :
 Calls Try.prog 65 #[at0 bm] w fun e w' => e = .returned (.bool (decide (s.size = 0))) ∧ w = w' := by
 go_enter Try.func65, Try.ntmps65
 go_wp2_with fail
 go_ret
 exact ⟨by rw [← ba_empty]; rfl, rfl⟩
theorem bvalid_c (bm b : Nat) (s : ByteArray) (w : World) (h1 : w.cell? ⟨bm, 0, none⟩ = some (at0 b)) (h2 : w.cell? ⟨b, 5, none⟩ = some (.string s)) :
 Calls Try.prog 66 #[at0 bm] w fun e w' => e = .returned (.bool (decide (s.size ≤ 4096))) ∧ w = w' := by
 go_enter Try.func66, Try.ntmps66
 go_wp2_with fail
 go_ret
 exact ⟨by congr 2; simp; omega, rfl⟩
theorem vzero_c (bm b : Nat) (x : Int) (w : World) (h1 : w.cell? ⟨bm, 0, none⟩ = some (at0 b)) (h2 : w.cell? ⟨b, 17, none⟩ = some (.int .i64 x)) :
 Calls Try.prog 69 #[at0 bm] w fun e w' => e = .returned (.bool (decide (x = 0))) ∧ w = w' := by
 go_enter Try.func69, Try.ntmps69
 go_wp2_with fail
 go_ret
 exact ⟨by simp [BEq.beq], rfl⟩
theorem all_snocI {p : Int → Bool} {l : List Int} {k : Nat} (hk : k < l.length) (hz : (l.take k).all p = true) (h : p l[k] = true) : (l.take (k + 1)).all p = true := by
 rw [List.take_add_one, List.getElem?_eq_getElem hk, List.all_append, hz]
 simp [h]
/-- A message of a group is zero. -/
def gmZ (l : List Int) (gr dn : Bool) : Bool := l.all (· == 0) && !gr && !dn
theorem size_gm : (Try.prog.info? 39).map (·.size) = some 13 := by kernel_rfl
set_option maxRecDepth 100000 in
set_option maxHeartbeats 4000000 in
theorem isZero_c (i0 i1 i2 i3 i4 i5 i6 i7 i8 : Int) (gr dn : Bool) (A : Option Addr) (n c : Nat) (d : ByteArray) (w : World) :
 Calls Try.prog 76 #[.agg ([.int .i64 i0, .int .i64 i1, .int .i64 i2, .int .i64 i3, .int .i64 i4, .int .i64 i5, .int .i64 i6, .int .i64 i7, .bool gr, .slice A n c, .int .i64 i8, .string d, .bool dn] : List Value).toArray] w fun e w' => e = .returned (.bool (gmZ [i0, i1, i2, i3, i4, i5, i6, i7, i8, (n : Int), (d.size : Int)] gr dn)) ∧ Below w.heap.size w w' := by
 have HO := hide (Own.nil w [] (by simp))
 go_enter Try.func76, Try.ntmps76
 go_wp2_with (first
  | ((with_reducible refine at_box 39 (.tmp 0) ?_); refine wpList_box_own HO.out rfl 39 (.tmp 0) rfl ([.int .i64 i0, .int .i64 i1, .int .i64 i2, .int .i64 i3, .int .i64 i4, .int .i64 i5, .int .i64 i6, .int .i64 i7, .bool gr, .slice A n c, .int .i64 i8, .string d, .bool dn]) rfl ?_; intro WA b hO; replace HO := hide hO; clear hO; have k0 := HO.out.cells 0 rfl))
 obtain ⟨l, hl⟩ : ∃ l : List Int, [i0, i1, i2, i3, i4, i5, i6, i7, i8, (n : Int), (d.size : Int)] = l := ⟨_, rfl⟩
 have hll : l.length = 11 := by rw [← hl]; rfl
 have hcl : ∀ k (h : k < l.length), (WA.alloc (.cells ([.int .i64 i0, .int .i64 i1, .int .i64 i2, .int .i64 i3, .int .i64 i4, .int .i64 i5, .int .i64 i6, .int .i64 i7, .int .i64 i8, .int .i64 (n : Int), .int .i64 (d.size : Int)] : List Value).toArray 3)).cell? ⟨WA.heap.size, k, none⟩ = some (.int .i64 l[k]) := fun k h => by
  rw [(Blk.new WA 3 ([.int .i64 i0, .int .i64 i1, .int .i64 i2, .int .i64 i3, .int .i64 i4, .int .i64 i5, .int .i64 i6, .int .i64 i7, .int .i64 i8, .int .i64 (n : Int), .int .i64 (d.size : Int)] : List Value).toArray).cell k]
  have e : ([.int .i64 i0, .int .i64 i1, .int .i64 i2, .int .i64 i3, .int .i64 i4, .int .i64 i5, .int .i64 i6, .int .i64 i7, .int .i64 i8, .int .i64 (n : Int), .int .i64 (d.size : Int)] : List Value) = l.map (.int .i64 ·) := by rw [← hl]; rfl
  rw [e]
  simp [h]
 have hfin := (HO.out.alloc (.cells ([.int .i64 i0, .int .i64 i1, .int .i64 i2, .int .i64 i3, .int .i64 i4, .int .i64 i5, .int .i64 i6, .int .i64 i7, .int .i64 i8, .int .i64 (n : Int), .int .i64 (d.size : Int)] : List Value).toArray 3))
 generalize WA.heap.size = bs at hcl ⊢
 generalize WA.alloc (.cells ([.int .i64 i0, .int .i64 i1, .int .i64 i2, .int .i64 i3, .int .i64 i4, .int .i64 i5, .int .i64 i6, .int .i64 i7, .int .i64 i8, .int .i64 (n : Int), .int .i64 (d.size : Int)] : List Value).toArray 3) = w1 at hcl hfin ⊢
 have HL := hide hl;have HLL := hide hll;have HCL := hide hcl;have HO1 := hide hfin;clear hl hll hcl hfin HO k0
 go_loopw [33] (fun v9 wr => w1 = wr ∧ ∃ k : Nat, v9 = .int .i64 k ∧ k ≤ 11 ∧ (l.take k).all (· == 0) = true) (fun v9 _ => 11 - (intOf v9).toNat)
 case atStart => exact ⟨rfl, 0, rfl, Nat.zero_le _, rfl⟩
 case round =>
  obtain ⟨rfl, k, rfl, hk, hz⟩ := hrel
  by_cases hlt : k < 11
  ·have hkl : k < l.length := by rw [HLL.out]; exact hlt
   have hcp := HCL.out k hkl
   have hki : (k : Int) < 11 := by omega
   have HLT := hide hlt
   have HZ : Hid (l[k] = 0 → (l.take (k + 1)).all (· == 0) = true) := hide (fun h => all_snocI hkl hz (by simp [h]))
   have HX : Hid (l[k] ≠ 0 → gmZ l gr dn = false) := hide (fun h => by
    unfold gmZ
    have : l.all (· == 0) = false := by
     rw [List.all_eq_false]
     exact ⟨l[k], List.getElem_mem hkl, by simp [h]⟩
    rw [this]; rfl)
   generalize l[k] = x at *
   clear hz hkl hlt
   by_cases h0 : x = 0
   ·subst h0
    go_wp2_with fail
    go_roundw
    case rel => exact ⟨trivial, k + 1, by go_num, HLT.out, HZ.out rfl⟩
    case measure => have := HLT.out; simp [intOf]; omega
   ·go_wp2_with fail
    go_ret
    exact ⟨by rw [HL.out, HX.out h0]; rfl, HO1.out.below⟩
  ·obtain rfl : k = 11 := by omega
   have HZ1 : Hid (l.all (· == 0) = true) := hide (by rw [List.take_of_length_le (by rw [HLL.out]; exact Nat.le_refl _)] at hz; exact hz)
   have k0 := HO1.out.cells 0 rfl;clear hz hk hlt
   cases gr with
   | true =>
    go_wp2_with fail
    go_ret
    exact ⟨by rw [HL.out]; unfold gmZ; rw [HZ1.out]; rfl, HO1.out.below⟩
   | false =>
    go_wp2_with fail
    go_ret
    exact ⟨by rw [HL.out]; unfold gmZ; rw [HZ1.out]; simp, HO1.out.below⟩
end
section
open Go.ChangeShapes Go.WideShapes Go.ChangeAt Go.RowKit
/-- A list of numbers in memory. -/
def Li (w : World) (v : Value) (l : List Int) : Prop :=
 ∃ A c, v = .slice A l.length c ∧ l.length ≤ c ∧ c ≤ maxLen ∧ (∀ x ∈ l, -9223372036854775808 ≤ x ∧ x ≤ 9223372036854775807) ∧ (0 < l.length → ∃ g o, A = some ⟨g, o, none⟩ ∧ g < w.heap.size ∧ ∀ i (h : i < l.length), w.cell? ⟨g, o + i, none⟩ = some (.int .i64 l[i]))
theorem Li.nil (w : World) : Li w (.slice none 0 0) [] := ⟨none, 0, rfl, Nat.le_refl _, by unfold maxLen; omega, (fun x hx => by cases hx), fun h => by simp at h⟩
theorem Li.form {w : World} {v : Value} {l : List Int} (h : Li w v l) : ∃ A n c, v = .slice A n c ∧ Hid (n = l.length) ∧ n ≤ c ∧ c ≤ 9223372036854775807 := by
 obtain ⟨A, c, e, h1, h2, _⟩ := h; exact ⟨A, _, c, e, rfl, h1, by unfold maxLen at h2; omega⟩
theorem Li.at_ {w : World} {A : Option Addr} {n c : Nat} {l : List Int} (h : Li w (.slice A n c) l) (i : Nat) (hi : i < l.length) : ∃ g o, A = some ⟨g, o, none⟩ ∧ ∀ j (hj : j < l.length), w.cell? ⟨g, o + j, none⟩ = some (.int .i64 l[j]) := by
 obtain ⟨A', c', e, h1, h2, _, h3⟩ := h
 obtain ⟨rfl, rfl, rfl⟩ : A = A' ∧ n = l.length ∧ c = c' := by injection e with e1 e2 e3; exact ⟨e1, e2, e3⟩
 obtain ⟨g, o, rfl, _, hc⟩ := h3 (by omega)
 exact ⟨g, o, rfl, hc⟩
theorem Li.touch {S : List Nat} {w w' : World} {v : Value} {l : List Int} (h : Li w v l) (k : Touch S w w') (hv : l ≠ [] → ∀ j, v.ownBlock = some j → j ∉ S) : Li w' v l := by
 obtain ⟨A, c, rfl, h1, h2, h3, h4⟩ := h
 refine ⟨A, c, rfl, h1, h2, h3, fun hl => ?_⟩
 obtain ⟨g, o, rfl, hg, hr⟩ := h4 hl
 exact ⟨g, o, rfl, Nat.lt_of_lt_of_le hg k.size, fun i hi => by rw [World.cell?_of_block (k.block g hg (hv (List.length_pos_iff.1 hl) g rfl))]; exact hr i hi⟩
theorem Li.step {w w' : World} {v : Value} {l : List Int} (h : Li w v l) (k : Below w.heap.size w w') : Li w' v l := h.touch (Touch.below k []) (by simp)
def incAt (l : List Int) (i : Nat) : Bool := !(decide (l.getD i 0 < 1) || decide (16 < l.getD i 0) || decide (0 < i) && decide (l.getD i 0 ≤ l.getD (i - 1) 0))
def incr (l : List Int) : Bool := (List.range l.length).all (incAt l)
theorem incr_false {l : List Int} {k : Nat} (hk : k < l.length) (h : incAt l k = false) : incr l = false := by
 unfold incr
 rw [List.all_eq_false]
 exact ⟨k, List.mem_range.2 hk, by simp [h]⟩
set_option maxHeartbeats 2000000 in
theorem increasing_c (v : Value) (l : List Int) (w : World) (h : Li w v l) : Calls Try.prog 59 #[v] w fun e w' => e = .returned (.bool (incr l)) ∧ w = w' := by
 obtain ⟨A, n, c, rfl, hn, hnc, hcm⟩ := h.form
 have H := hide h;clear h
 go_enter Try.func59, Try.ntmps59
 go_wp2_with fail
 go_loopw [7] (fun v9 wr => w = wr ∧ ∃ k : Nat, v9 = .int .i64 k ∧ k ≤ n ∧ ∀ i, i < k → incAt l i = true) (fun v9 _ => n - (intOf v9).toNat)
 case atStart => exact ⟨rfl, 0, rfl, Nat.zero_le _, fun i hi => by omega⟩
 case round =>
  obtain ⟨rfl, k, rfl, hk, hz⟩ := hrel
  by_cases hlt : k < n
  ·have hkl : k < l.length := by rw [← hn.out]; exact hlt
   obtain ⟨g, o, rfl, hc⟩ := H.out.at_ k hkl
   have hcp := hc k hkl
   have hcq : 0 < k → w.cell? ⟨g, o + (k - 1), none⟩ = some (.int .i64 (l.getD (k - 1) 0)) := fun h0 => by
    rw [hc (k - 1) (by omega)]; simp [show k - 1 < l.length by omega]
   have hki : (k : Int) < (n : Int) := by omega
   have HLT := hide hlt
   have hg : l[k] = l.getD k 0 := by simp [hkl]
   rw [hg] at hcp
   have HI : Hid (incAt l k = !(decide (l.getD k 0 < 1) || decide (16 < l.getD k 0) || decide (0 < k) && decide (l.getD k 0 ≤ l.getD (k - 1) 0))) := hide rfl
   have HF : Hid (incAt l k = false → incr l = false) := hide (incr_false hkl)
   have HZ : Hid (incAt l k = true → ∀ i, i < k + 1 → incAt l i = true) := hide (fun h i hi => by
    rcases Nat.lt_or_ge i k with h1 | h1
    ·exact hz i h1
    ·obtain rfl : i = k := by omega
     exact h)
   clear hc hg hz hkl hlt
   generalize l.getD k 0 = x at *
   generalize l.getD (k - 1) 0 = y at *
   cases q1 : decide (x < 1) with
   | true =>
    have HR : Hid (incr l = false) := hide (HF.out (by rw [HI.out, q1]; rfl))
    clear HI HF HZ hcq
    go_wp2_with fail
    go_ret
    exact ⟨by rw [HR.out]; rfl, rfl⟩
   | false =>
    cases q2 : decide (16 < x) with
    | true =>
     have HR : Hid (incr l = false) := hide (HF.out (by rw [HI.out, q1, q2]; rfl))
     clear HI HF HZ hcq
     go_wp2_with fail
     go_ret
     exact ⟨by rw [HR.out]; rfl, rfl⟩
    | false =>
     by_cases h0 : 0 < k
     ·have hcr := hcq h0
      obtain ⟨j, rfl⟩ : ∃ j, k = j + 1 := ⟨k - 1, by omega⟩
      rw [show j + 1 - 1 = j by omega] at hcr
      have hj1 : ((j + 1 : Nat) : Int) - 1 = (j : Int) := by omega
      have q0 : decide ((0 : Int) < ((j + 1 : Nat) : Int)) = true := by simp <;> omega
      cases q3 : decide (x ≤ y) with
      | true =>
       have HR : Hid (incr l = false) := hide (HF.out (by rw [HI.out, q1, q2, q3]; simp))
       clear HI HF HZ hcq
       go_wp2_with fail
       go_ret
       exact ⟨by rw [HR.out]; rfl, rfl⟩
      | false =>
       have HR := hide (HZ.out (by rw [HI.out, q1, q2, q3]; simp))
       clear HI HF HZ hcq
       go_wp2_with fail
       go_roundw
       case rel => exact ⟨trivial, j + 1 + 1, by go_num, HLT.out, HR.out⟩
       case measure => have := HLT.out; simp [intOf]; omega
     ·obtain rfl : k = 0 := by omega
      have HR := hide (HZ.out (by rw [HI.out, q1, q2]; rfl))
      clear HI HF HZ hcq
      rw [Nat.add_zero] at hcp
      go_wp2_with fail
      go_roundw
      case rel => exact ⟨trivial, 1, by go_num, HLT.out, HR.out⟩
      case measure => have := HLT.out; simp [intOf]; omega
  ·obtain rfl : k = n := by omega
   have HZ : Hid (incr l = true) := hide (by unfold incr; rw [List.all_eq_true]; exact fun i hi => hz i (by rw [hn.out]; exact List.mem_range.1 hi))
   clear hz hk hlt
   go_wp2_with fail
   go_ret
   exact ⟨by rw [HZ.out]; rfl, rfl⟩
theorem mvalid_c (bm b : Nat) (v : Value) (l : List Int) (w : World) (h1 : w.cell? ⟨bm, 0, none⟩ = some (at0 b)) (h2 : w.cell? ⟨b, 33, none⟩ = some v) (h3 : Li w v l) :
 Calls Try.prog 58 #[at0 bm] w fun e w' => e = .returned (.bool (incr l)) ∧ w = w' := by
 obtain ⟨A, n, c, rfl, hn, hnc, hcm⟩ := h3.form
 go_enter Try.func58, Try.ntmps58
 go_wp2_with fail
 refine (increasing_c _ l w h3).mono ?_
 rintro e w1 ⟨rfl, rfl⟩
 go_wp2_with fail
 go_ret
 exact ⟨rfl, rfl⟩
theorem uzero_c (bz bn bl bm b : Nat) (vn vl : Value) (ns ls : List Nat) (cs : List Value) (x : Int) (w : World) (h0 : w.cell? ⟨bz, 0, none⟩ = some (.func (.func 86) #[] #[at0 bn, at0 bl])) (h1 : w.cell? ⟨bn, 0, none⟩ = some vn) (h2 : w.cell? ⟨bl, 0, none⟩ = some vl) (hn : Ptrs w vn b ns) (hl : Ptrs w vl b ls)
 (hc : ∀ o, w.cell? ⟨b, o, none⟩ = cs[o]?) (hns : ∀ o ∈ ns, ∃ x, cs[o]? = some (.int .i64 x)) (hls : ∀ o ∈ ls, ∃ A n c, cs[o]? = some (.slice A n c)) (hm : w.cell? ⟨bm, 0, none⟩ = some (at0 b)) (hx : w.cell? ⟨b, 16, none⟩ = some (.int .i64 x)) :
 Calls Try.prog 56 #[at0 bz, at0 bm] w fun e w' => e = .returned (.bool (zeroP cs ns ls && decide (x = 0))) ∧ w = w' := by
 have HP := hide (pzero_c bn bl b vn vl ns ls cs w h1 h2 hn hl hc hns hls)
 clear h1 h2 hn hl hc hns hls
 generalize hz : zeroP cs ns ls = zz at *
 clear hz
 go_enter Try.func56, Try.ntmps56
 go_wp2_with fail
 refine HP.out.mono ?_
 rintro e w1 ⟨rfl, rfl⟩
 cases zz with
 | true =>
  go_wp2_with fail
  go_ret
  exact ⟨by simp [BEq.beq], rfl⟩
 | false =>
  go_wp2_with fail
  go_ret
  exact ⟨by simp, rfl⟩
theorem info_unit : (Try.prog.info? 32).map (·.zero) = some (some (.agg ([.int .i64 0, .int .i64 0, .int .i64 0, .int .i64 0] : List Value).toArray)) := by kernel_rfl
theorem size_unit : (Try.prog.info? 32).map (·.size) = some 4 := by kernel_rfl
def uOk (uk ui ur : Int) : Bool := decide (0 ≤ uk) && decide (uk ≤ 5) && decide (1 ≤ ui) && decide (ui ≤ 8) && decide (0 ≤ ur)
set_option maxHeartbeats 2000000 in
theorem uvalid_c (bm b : Nat) (uk ui ur uv : Int) (w : World) (hm : w.cell? ⟨bm, 0, none⟩ = some (at0 b)) (c0 : w.cell? ⟨b, 13, none⟩ = some (.int .i64 uk)) (c1 : w.cell? ⟨b, 14, none⟩ = some (.int .i64 ui)) (c2 : w.cell? ⟨b, 15, none⟩ = some (.int .i64 ur)) (c3 : w.cell? ⟨b, 16, none⟩ = some (.int .i64 uv)) :
 Calls Try.prog 57 #[at0 bm] w fun e w' => e = .returned (.bool (uOk uk ui ur)) ∧ Below w.heap.size w w' := by
 have HO := hide (Own.nil w [] (by simp))
 unfold uOk
 cases q0 : decide (0 ≤ uk) with
 | true =>
  cases q1 : decide (uk ≤ 5) with
  | true =>
   cases q2 : decide (1 ≤ ui) with
   | true =>
    cases q3 : decide (ui ≤ 8) with
    | true =>
     cases q4 : decide (0 ≤ ur) with
     | true =>
      go_enter Try.func57, Try.ntmps57
      go_wp2_with (first
       | ((with_reducible refine at_alloc 32 ?_); refine wpList_alloc_own HO.out rfl 32 rfl [.int .i64 0, .int .i64 0, .int .i64 0, .int .i64 0] info_unit ?_; intro WA b2 hO; replace HO := hide hO; clear hO)
       | ((with_reducible refine at_store 32 (.tmp 2) ?_); refine wpList_store_own HO.out rfl 32 (.tmp 2) (.tmp 6) rfl 0 _ 0 _ _ ([.int .i64 uk, .int .i64 ui, .int .i64 ur, .int .i64 uv]) ([.int .i64 uk, .int .i64 ui, .int .i64 ur, .int .i64 uv]) rfl _ rfl rfl (fits_agg _) (by simp) rfl size_unit rfl ?_; intro WA hO; replace HO := hide hO; clear hO; have k0 := HO.out.cells 0 rfl))
      go_ret
      exact ⟨by simp, HO.out.below⟩
     | false =>
      go_enter Try.func57, Try.ntmps57
      go_wp2_with (first
       | ((with_reducible refine at_alloc 32 ?_); refine wpList_alloc_own HO.out rfl 32 rfl [.int .i64 0, .int .i64 0, .int .i64 0, .int .i64 0] info_unit ?_; intro WA b2 hO; replace HO := hide hO; clear hO)
       | ((with_reducible refine at_store 32 (.tmp 2) ?_); refine wpList_store_own HO.out rfl 32 (.tmp 2) (.tmp 6) rfl 0 _ 0 _ _ ([.int .i64 uk, .int .i64 ui, .int .i64 ur, .int .i64 uv]) ([.int .i64 uk, .int .i64 ui, .int .i64 ur, .int .i64 uv]) rfl _ rfl rfl (fits_agg _) (by simp) rfl size_unit rfl ?_; intro WA hO; replace HO := hide hO; clear hO; have k0 := HO.out.cells 0 rfl))
      go_ret
      exact ⟨by simp, HO.out.below⟩
    | false =>
     go_enter Try.func57, Try.ntmps57
     go_wp2_with (first
      | ((with_reducible refine at_alloc 32 ?_); refine wpList_alloc_own HO.out rfl 32 rfl [.int .i64 0, .int .i64 0, .int .i64 0, .int .i64 0] info_unit ?_; intro WA b2 hO; replace HO := hide hO; clear hO)
      | ((with_reducible refine at_store 32 (.tmp 2) ?_); refine wpList_store_own HO.out rfl 32 (.tmp 2) (.tmp 6) rfl 0 _ 0 _ _ ([.int .i64 uk, .int .i64 ui, .int .i64 ur, .int .i64 uv]) ([.int .i64 uk, .int .i64 ui, .int .i64 ur, .int .i64 uv]) rfl _ rfl rfl (fits_agg _) (by simp) rfl size_unit rfl ?_; intro WA hO; replace HO := hide hO; clear hO; have k0 := HO.out.cells 0 rfl))
     go_ret
     exact ⟨by simp, HO.out.below⟩
   | false =>
    go_enter Try.func57, Try.ntmps57
    go_wp2_with (first
     | ((with_reducible refine at_alloc 32 ?_); refine wpList_alloc_own HO.out rfl 32 rfl [.int .i64 0, .int .i64 0, .int .i64 0, .int .i64 0] info_unit ?_; intro WA b2 hO; replace HO := hide hO; clear hO)
     | ((with_reducible refine at_store 32 (.tmp 2) ?_); refine wpList_store_own HO.out rfl 32 (.tmp 2) (.tmp 6) rfl 0 _ 0 _ _ ([.int .i64 uk, .int .i64 ui, .int .i64 ur, .int .i64 uv]) ([.int .i64 uk, .int .i64 ui, .int .i64 ur, .int .i64 uv]) rfl _ rfl rfl (fits_agg _) (by simp) rfl size_unit rfl ?_; intro WA hO; replace HO := hide hO; clear hO; have k0 := HO.out.cells 0 rfl))
    go_ret
    exact ⟨by simp, HO.out.below⟩
  | false =>
   go_enter Try.func57, Try.ntmps57
   go_wp2_with (first
    | ((with_reducible refine at_alloc 32 ?_); refine wpList_alloc_own HO.out rfl 32 rfl [.int .i64 0, .int .i64 0, .int .i64 0, .int .i64 0] info_unit ?_; intro WA b2 hO; replace HO := hide hO; clear hO)
    | ((with_reducible refine at_store 32 (.tmp 2) ?_); refine wpList_store_own HO.out rfl 32 (.tmp 2) (.tmp 6) rfl 0 _ 0 _ _ ([.int .i64 uk, .int .i64 ui, .int .i64 ur, .int .i64 uv]) ([.int .i64 uk, .int .i64 ui, .int .i64 ur, .int .i64 uv]) rfl _ rfl rfl (fits_agg _) (by simp) rfl size_unit rfl ?_; intro WA hO; replace HO := hide hO; clear hO; have k0 := HO.out.cells 0 rfl))
   go_ret
   exact ⟨by simp, HO.out.below⟩
 | false =>
  go_enter Try.func57, Try.ntmps57
  go_wp2_with (first
   | ((with_reducible refine at_alloc 32 ?_); refine wpList_alloc_own HO.out rfl 32 rfl [.int .i64 0, .int .i64 0, .int .i64 0, .int .i64 0] info_unit ?_; intro WA b2 hO; replace HO := hide hO; clear hO)
   | ((with_reducible refine at_store 32 (.tmp 2) ?_); refine wpList_store_own HO.out rfl 32 (.tmp 2) (.tmp 6) rfl 0 _ 0 _ _ ([.int .i64 uk, .int .i64 ui, .int .i64 ur, .int .i64 uv]) ([.int .i64 uk, .int .i64 ui, .int .i64 ur, .int .i64 uv]) rfl _ rfl rfl (fits_agg _) (by simp) rfl size_unit rfl ?_; intro WA hO; replace HO := hide hO; clear hO; have k0 := HO.out.cells 0 rfl))
  go_ret
  exact ⟨by simp, HO.out.below⟩
set_option maxRecDepth 100000 in
set_option maxHeartbeats 2000000 in
theorem mzero_c (bm b : Nat) (i0 i1 i2 i3 i4 i5 i6 i7 i8 : Int) (gr dn : Bool) (A : Option Addr) (n c : Nat) (d : ByteArray) (w : World) (hm : w.cell? ⟨bm, 0, none⟩ = some (at0 b)) (hg : w.rangeAt b 34 ([.int .i64 i0, .int .i64 i1, .int .i64 i2, .int .i64 i3, .int .i64 i4, .int .i64 i5, .int .i64 i6, .int .i64 i7, .bool gr, .slice A n c, .int .i64 i8, .string d, .bool dn] : List Value)) :
 Calls Try.prog 75 #[at0 bm] w fun e w' => e = .returned (.bool (gmZ [i0, i1, i2, i3, i4, i5, i6, i7, i8, (n : Int), (d.size : Int)] gr dn)) ∧ Below w.heap.size w w' := by
 have HG := hide hg;clear hg
 go_enter Try.func75, Try.ntmps75
 go_wp2_with (refine wpList_load_mid rfl 39 (.tmp 4) rfl b 34 rfl ([.int .i64 i0, .int .i64 i1, .int .i64 i2, .int .i64 i3, .int .i64 i4, .int .i64 i5, .int .i64 i6, .int .i64 i7, .bool gr, .slice A n c, .int .i64 i8, .string d, .bool dn]) _ HG.out Try.underlying39 rfl size_gm ?_)
 refine (isZero_c i0 i1 i2 i3 i4 i5 i6 i7 i8 gr dn A n c d w).mono ?_
 rintro e w1 ⟨rfl, hb⟩
 have HB := hide hb;clear hb
 go_wp2_with fail
 go_ret
 exact ⟨rfl, HB.out⟩
end
section
open Go.ChangeMaps Go.ChangeShapes Go.WideShapes Go.ChangeAt Go.RowKit
open Go.Maps (Keyed)
theorem Touch.map {w w' : World} {b : Nat} (h : w.mapTurned w' b) : Touch [b] w w' := by
 obtain ⟨es, clock, es', clock', hb, rfl⟩ := h
 refine ⟨rfl, rfl, rfl, by simp [setBlock], fun k hk hne => ?_⟩
 exact heap_setBlock_other hb _ (by simpa using hne)
theorem step_makeMap {P : Program} {w : World} {ops : Array Oper} {o : Oper} {a : Act} {K : Act → World → Prop} {Q : Exit → Act → World → Prop} {E : Prop} (hgd : o.guard = none) (t : TypeId) (ho : o.op = .makeMap t none)
 (h : ∀ w' mb, mb = w.heap.size → w' = w.alloc (.map #[] 0) → K (a.put o.dst (.map (some mb))) w') : if Region.wanted o (yielded ops a.tmps) = true then Oper.wp P o a w K Q else E := by
 have hw : Region.wanted o (yielded ops a.tmps) = true := by simp [Region.wanted, hgd]
 rw [if_pos hw]
 unfold Oper.wp execOp
 simp only [ho, Option.map_none, Sem.run_bind, run_makeMap, Result.andThen_ok]
 exact h _ _ rfl rfl
theorem step_insert {H : Type} {P : Program} {w : World} {ops : Array Oper} {o : Oper} {a : Act} {K : Act → World → Prop} {Q : Exit → Act → World → Prop} {E : Prop} (hgd : o.guard = none) (m x v : Operand) (t : TypeId) (hop : o.op = .insert t m x v)
 (k e : TypeId) (KK : Keyed P k) (ht : P.underlying t = some (.map k e)) (R : Value → Option (DataW H × List MemPlace)) (b n : Nat) (D : DataW H)
 (hm : a.eval m = .map (some b)) (hown : w.ownsMap P k R b n D) (hn : n < maxLen) (key val : Value) (kl : Lit) (hx : a.eval x = key) (hv : a.eval v = val) (hkey : keyOf P k key = some kl)
 (d : DataW H) (ps : List MemPlace) (hval : R val = some (d, ps))
 (hK : ∀ w', w'.ownsMap P k R b (n + 1) (D.put kl d) → Touch [b] w w' → K (a.put o.dst undef) w') : if Region.wanted o (yielded ops a.tmps) = true then Oper.wp P o a w K Q else E := by
 have hw : Region.wanted o (yielded ops a.tmps) = true := by simp [Region.wanted, hgd]
 rw [if_pos hw]
 obtain ⟨w', hrun, r1, r2⟩ := hown.store KK ht hn hkey hval
 unfold Oper.wp
 simp [execOp, hop, hm, hx, hv, hrun, Result.andThen]
 exact hK w' r1 (Touch.map r2)
end
section
open Go.ChangeMaps Go.ChangeShapes Go.WideShapes Go.ChangeAt Go.RowKit
open Go.Maps (Keyed IsMap)
abbrev nGroup : ByteArray := ⟨#[71, 114, 111, 117, 112]⟩
abbrev nClient : ByteArray := ⟨#[67, 108, 105, 101, 110, 116]⟩
abbrev nNumber : ByteArray := ⟨#[78, 117, 109, 98, 101, 114]⟩
abbrev nCode : ByteArray := ⟨#[67, 111, 100, 101]⟩
abbrev nLeader : ByteArray := ⟨#[76, 101, 97, 100, 101, 114]⟩
abbrev nGeneration : ByteArray := ⟨#[71, 101, 110, 101, 114, 97, 116, 105, 111, 110]⟩
abbrev nStep : ByteArray := ⟨#[83, 116, 101, 112]⟩
abbrev nBody : ByteArray := ⟨#[66, 111, 100, 121]⟩
abbrev nValue : ByteArray := ⟨#[86, 97, 108, 117, 101]⟩
abbrev nChange : ByteArray := ⟨#[67, 104, 97, 110, 103, 101]⟩
abbrev nUnit : ByteArray := ⟨#[85, 110, 105, 116]⟩
abbrev nMachines : ByteArray := ⟨#[77, 97, 99, 104, 105, 110, 101, 115]⟩
abbrev nStatus : ByteArray := ⟨#[83, 116, 97, 116, 117, 115]⟩
abbrev nMessage : ByteArray := ⟨#[77, 101, 115, 115, 97, 103, 101]⟩
/-- The names that the kinds use, in order of the kinds. -/
def useList : List (List ByteArray) := [[nMessage], [nGroup, nClient, nNumber, nBody], [nGroup, nClient, nNumber, nCode, nBody, nLeader], [nGroup, nGeneration, nStep, nChange], [nGroup, nGeneration, nStep, nCode, nLeader], [nGeneration, nStep, nUnit], [nGeneration, nStep, nCode, nValue], [nGroup], [nGroup, nCode, nStatus], [nGroup, nClient, nNumber, nValue], [nGroup, nClient, nNumber, nCode, nValue], [nMachines]]
/-- An element of a map, as it is. -/
def RV (v : Value) : Option (DataW Value × List MemPlace) := some (.held v, [])
/-- A map out of entries. -/
def mkM (L : List (Lit × Value)) : DataW Value := L.foldl (fun D e => D.put e.1 (.held e.2)) (.map [])
theorem mkM_snoc (L : List (Lit × Value)) (k : Lit) (v : Value) : mkM (L ++ [(k, v)]) = (mkM L).put k (.held v) := by unfold mkM; rw [List.foldl_append]; rfl
theorem mkM_not : ∀ (L : List (Lit × Value)) (k : Lit), (∀ e ∈ L, e.1 ≠ k) → Go.Maps.has (mkM L) k = false ∧ ∀ z, (mkM L).atKey k z = z := by
 intro L k
 unfold mkM
 have : ∀ (D : DataW Value), (Go.Maps.has D k = false ∧ ∀ z, D.atKey k z = z) → (∀ e ∈ L, e.1 ≠ k) → Go.Maps.has (L.foldl (fun D e => D.put e.1 (.held e.2)) D) k = false ∧ ∀ z, (L.foldl (fun D e => D.put e.1 (.held e.2)) D).atKey k z = z := by
  induction L with
  | nil => exact fun D h _ => h
  | cons e L ih => exact fun D h hn => ih _ ⟨by rw [Go.Maps.has_put_other (hn e (by simp)).symm]; exact h.1, fun z => by rw [Go.Maps.atKey_put_other (hn e (by simp)).symm]; exact h.2 z⟩ (fun e' he' => hn e' (by simp [he']))
 exact this _ ⟨rfl, fun z => rfl⟩
theorem mkM_at (L : List (Lit × Value)) (k : Lit) (v : Value) (hk : WideAt.IsKeyLit k) (h : (k, v) ∈ L) (hd : L.Pairwise (fun a b => a.1 ≠ b.1)) : Go.Maps.has (mkM L) k = true ∧ ∀ z, (mkM L).atKey k z = .held v := by
 have key : ∀ (L : List (Lit × Value)) (D : DataW Value), IsMap D → L.Pairwise (fun a b => a.1 ≠ b.1) → ((∃ v', (k, v') ∈ L) ∨ (Go.Maps.has D k = true)) → Go.Maps.has (L.foldl (fun D e => D.put e.1 (.held e.2)) D) k = true := by
  intro L
  induction L with
  | nil => intro D _ _ h; rcases h with ⟨v', h⟩ | h; cases h; exact h
  | cons e L ih =>
   intro D hD hp h
   refine ih _ (hD.put _ _) (List.pairwise_cons.1 hp).2 ?_
   by_cases he : k = e.1
   ·right; rw [he]; exact Go.Maps.has_put_same hD (by rw [← he]; exact hk) _
   ·rcases h with ⟨v', h⟩ | h
    ·rcases List.mem_cons.1 h with h | h
     ·exact absurd (by rw [← h]) he
     ·exact .inl ⟨v', h⟩
    ·right; rw [Go.Maps.has_put_other he]; exact h
 have key2 : ∀ (L : List (Lit × Value)) (D : DataW Value) (z : DataW Value), IsMap D → L.Pairwise (fun a b => a.1 ≠ b.1) → ((k, v) ∈ L ∨ (D.atKey k z = .held v ∧ ∀ e ∈ L, e.1 ≠ k)) → (L.foldl (fun D e => D.put e.1 (.held e.2)) D).atKey k z = .held v := by
  intro L
  induction L with
  | nil => intro D z _ _ h; rcases h with h | h; cases h; exact h.1
  | cons e L ih =>
   intro D z hD hp h
   refine ih _ z (hD.put _ _) (List.pairwise_cons.1 hp).2 ?_
   rcases h with h | h
   ·rcases List.mem_cons.1 h with h | h
    ·right
     subst h
     exact ⟨Go.Maps.atKey_put_same hD hk _ _, fun e' he' => ((List.pairwise_cons.1 hp).1 e' he').symm⟩
    ·exact .inl h
   ·right
    exact ⟨by rw [Go.Maps.atKey_put_other (h.2 e (by simp)).symm]; exact h.1, fun e' he' => h.2 e' (by simp [he'])⟩
 exact ⟨key L _ Go.Maps.isMap_empty hd (.inl ⟨v, h⟩), fun z => key2 L _ z Go.Maps.isMap_empty hd (.inl h)⟩
section
variable {P : Program} {w : World} {ops : Array Oper} {rest : List Oper} {o : Oper} {a : Act} {Q : Exit → Act → World → Prop}
theorem wpList_insert_held (hgd : o.guard = none) (m x v : Operand) (t : TypeId) (hop : o.op = .insert t m x v)
 (k e : TypeId) (KK : Keyed P k) (ht : P.underlying t = some (.map k e)) (b n : Nat) (D : DataW Value)
 (hm : a.eval m = .map (some b)) (hown : w.ownsMap P k RV b n D) (hn : n < maxLen) (key val : Value) (kl : Lit) (hx : a.eval x = key) (hv : a.eval v = val) (hkey : keyOf P k key = some kl)
 (hK : ∀ w', w'.ownsMap P k RV b (n + 1) (D.put kl (.held val)) → Touch [b] w w' → wpList P ops Q rest (a.put o.dst undef) w') : wpList P ops Q (o :: rest) a w := by
 refine wpList_plain hgd fun K' hK' => ?_
 obtain ⟨w', hrun, r1, r2⟩ := hown.store KK ht hn hkey (d := .held val) (ps := []) rfl
 unfold Oper.wp
 simp [execOp, hop, hm, hx, hv, hrun, Result.andThen]
 exact hK' _ _ (hK w' r1 (Touch.map r2))
theorem wpList_lookup_held (hgd : o.guard = none) (m x : Operand) (t : TypeId) (hop : o.op = .lookup t m x false)
 (k e : TypeId) (KK : Keyed P k) (ht : P.underlying t = some (.map k e)) {z : Value} (hz : (zeroValue e).run P w = .ok z w) (b n : Nat) (D : DataW Value)
 (hm : a.eval m = .map (some b)) (hown : w.ownsMap P k RV b n D) (key val : Value) (kl : Lit) (hx : a.eval x = key) (hkey : keyOf P k key = some kl) (hat : ∀ z, D.atKey kl z = .held val)
 (hK : wpList P ops Q rest (a.put o.dst val) w) : wpList P ops Q (o :: rest) a w := by
 refine wpList_plain hgd fun K' hK' => ?_
 obtain ⟨v, ps, hrun, hv⟩ := hown.lookup KK ht hz (zd := .held z) (zp := []) rfl hkey
 have e : v = val := by
  rw [hat] at hv
  simp only [RV, Option.some.injEq, Prod.mk.injEq, DataW.held.injEq] at hv
  exact hv.1
 subst e
 unfold Oper.wp
 simp [execOp, hop, hm, hx, hrun, Result.andThen]
 exact hK' _ _ hK
theorem wpList_lookup_ok_held (hgd : o.guard = none) (m x : Operand) (t : TypeId) (hop : o.op = .lookup t m x true)
 (k e : TypeId) (KK : Keyed P k) (ht : P.underlying t = some (.map k e)) {z : Value} (hz : (zeroValue e).run P w = .ok z w) (b n : Nat) (D : DataW Value)
 (hm : a.eval m = .map (some b)) (hown : w.ownsMap P k RV b n D) (key val : Value) (kl : Lit) (is : Bool) (hx : a.eval x = key) (hkey : keyOf P k key = some kl) (hat : D.atKey kl (.held z) = .held val) (hhas : Go.Maps.has D kl = is)
 (hK : wpList P ops Q rest (a.put o.dst (.tuple #[val, .bool is])) w) : wpList P ops Q (o :: rest) a w := by
 refine wpList_plain hgd fun K' hK' => ?_
 obtain ⟨v, ps, hrun, hv⟩ := hown.look_ok KK ht hz (zd := .held z) (zp := []) rfl hkey
 have e : v = val := by
  rw [hat] at hv
  simp only [RV, Option.some.injEq, Prod.mk.injEq, DataW.held.injEq] at hv
  exact hv.1
 subst e
 subst hhas
 unfold Oper.wp
 simp [execOp, hop, hm, hx, hrun, Result.andThen]
 exact hK' _ _ hK
end
def strCells (l : List ByteArray) : List Value := l.map .string
def useVal (g : Nat) (l : List ByteArray) : Value := .slice (some ⟨g, 0, none⟩) l.length l.length
end
end Go.Proofs.Ytpbgelhjbfckcaa
