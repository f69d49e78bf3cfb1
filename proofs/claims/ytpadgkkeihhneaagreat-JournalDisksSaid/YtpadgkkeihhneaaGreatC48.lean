/- JournalDisks: plain law of the disk that is filled; what stands between two writes. -/
import Derived.Test.YtpadgkkeihhneaaGreatC47
import Derived.Test.YtpadgkkeihhneaaGreatC43
namespace Go.Proofs.YtpadgkkeihhneaaGreat
set_option maxRecDepth 100000
set_option linter.unusedSimpArgs false
set_option linter.unusedVariables false
section
open Go.ChangeShapes Go.WideShapes Go.ChangeAt Go.RowKit
/-- A disk of n pages that is being filled: at most k writes are pending. -/
structure Cs (n k : Nat) (D : DS) : Prop where
 ok : D.Ok
 len : D.pages.length = n
 nf : D.failed = false
 fuse : D.fuse = -1
 few : D.pend.length ≤ k
theorem Cs.new (n : Nat) : Cs n 0 (dNew n) := ⟨dNew_ok n, by simp [dNew], rfl, rfl, Nat.le_refl _⟩
theorem Cs.mono {n k k' : Nat} {D : DS} (h : Cs n k D) (hk : k ≤ k') : Cs n k' D := ⟨h.ok, h.len, h.nf, h.fuse, Nat.le_trans h.few hk⟩
theorem Cs.write {n k : Nat} {D : DS} (h : Cs n k D) (p : Int) (data : List UInt8) : Cs n (k + 1) (dWrite D p data).1 := by
 have hok := dWrite_ok h.ok p data
 have hb : dBurn D = (D, 0) := by unfold dBurn; rw [if_neg (by rw [h.fuse]; decide), if_neg (by rw [h.fuse]; decide)]
 have h1 := h.mono (Nat.le_succ k)
 unfold dWrite at *
 rw [h.nf] at hok ⊢
 rw [if_neg (by simp)] at hok ⊢
 split
 ·exact h1
 split
 ·exact h1
 rw [hb] at hok ⊢
 rw [if_pos rfl]
 rename_i h2 h3
 rw [if_neg h2, if_neg h3, if_pos rfl] at hok
 exact ⟨hok, h.len, h.nf, h.fuse, by show (D.pend ++ _).length ≤ _; have := h.few; simp; omega⟩
theorem Cs.sync {n k : Nat} {D : DS} (h : Cs n k D) (h8 : 8 ≤ n) (h4 : n ≤ 4096) : Sound (dSync D).1 ∧ (dSync D).1.failed = false ∧ (dSync D).1.fuse = -1 := by
 have hok := dSync_ok h.ok
 rcases dSync_out h.ok h.nf with ⟨f, h1, h2, h3, e⟩ | ⟨e1, e⟩
 ·rw [e] at hok ⊢
  have hf := h3 h.fuse
  have hl : (setAll D.pages D.pend).length = n := by
   have h5 := h.len
   have : (dSync D).1.pages.length = D.pages.length := by
    unfold dSync
    rw [h.nf, if_neg (by simp)]
    have hb : dBurn D = (D, 0) := by unfold dBurn; rw [if_neg (by rw [h.fuse]; decide), if_neg (by rw [h.fuse]; decide)]
    rw [hb, if_pos rfl]
    exact (settleFrom_ok _ 0 D.pend D.pages h.ok.pages h.ok.pend).1
   rw [e] at this
   show (setAll D.pages D.pend).length = n
   rw [← h5]; exact this
  exact ⟨⟨hok, by show 8 ≤ (setAll D.pages D.pend).length; omega, by show (setAll D.pages D.pend).length ≤ 4096; omega, fun _ => rfl, Nat.zero_le _⟩, rfl, hf⟩
 ·rw [h.fuse] at e1; exact absurd e1 (by decide)
/-- What Open does on a disk that was filled and synced. -/
theorem filled_open {D : DS} (h : Sound D) (hf : D.failed = false) (hz : D.fuse = -1) : ∃ D' J, jOpen D = (J, D', 0) ∧ Sound D' ∧ Kept 0 D' J := by
 rcases open_code h hf with ⟨D', e, h1, h2, h3, h4⟩ | ⟨h1, _⟩
 ·exact ⟨D', _, e, h1, Kept.opened h1 h2 h4 0⟩
 ·exact absurd hz h1
/-- Between two writes; the blocks X are kept apart. -/
def Jd (w0 : World) (n d bn bd bw k : Nat) (X : List Nat) (W : World) : Prop := ∃ (D : DS) (A : Option Addr) (nn c : Nat) (B : Option Addr) (m bb : Nat) (W0 : World), Cs n k D ∧
 Own w0 [] [(bn, 3, [.int .i64 n]), (bd, 26, [.pointer (some ⟨d, 0, none⟩)]), (bw, 32, [.slice A nn c, .slice B m bb, .int .i64 D.fuse, .bool D.failed])] W ∧
 Zs (fun W G => Disk W d G D) w0 W0 X [bn, bd, bw] W (.agg (rjc A nn c B m bb D.fuse D.failed 0 (sv []) (.slice none 0 0) 0 false).toArray) D js0
section
variable {w0 W W' : World} {n d bn bd bw k k' : Nat} {X : List Nat}
theorem Jd.below (h : Jd w0 n d bn bd bw k X W) : Below w0.heap.size w0 W := by
 obtain ⟨D, A, nn, c, B, m, bb, W0, h1, h2, h3⟩ := h; exact h2.below
theorem Jd.mono (h : Jd w0 n d bn bd bw k X W) (hk : k ≤ k') : Jd w0 n d bn bd bw k' X W := by
 obtain ⟨D, A, nn, c, B, m, bb, W0, h1, h2, h3⟩ := h; exact ⟨D, A, nn, c, B, m, bb, W0, h1.mono hk, h2, h3⟩
theorem Jd.step (h : Jd w0 n d bn bd bw k X W) (hb : Below W.heap.size W W') : Jd w0 n d bn bd bw k X W' := by
 obtain ⟨D, A, nn, c, B, m, bb, W0, h1, h2, h3⟩ := h; exact ⟨D, A, nn, c, B, m, bb, W0, h1, h2.step hb, h3.step (keeps_dk d D) hb⟩
theorem Jd.clear (h : Jd w0 n d bn bd bw k X W) : Jd w0 n d bn bd bw k [] W := by
 obtain ⟨D, A, nn, c, B, m, bb, W0, h1, h2, h3⟩ := h; exact ⟨D, A, nn, c, B, m, bb, _, h1, h2, h3.rebase [] [bn, bd, bw] (by simp) (fun j hj => .inl hj) (by simp)⟩
theorem Jd.cells (h : Jd w0 n d bn bd bw k X W) : (∀ j, W.cell? ⟨bn, j, none⟩ = ([.int .i64 n] : List Value)[j]?) ∧ ∀ j, W.cell? ⟨bd, j, none⟩ = ([.pointer (some ⟨d, 0, none⟩)] : List Value)[j]? := by
 obtain ⟨D, A, nn, c, B, m, bb, W0, h1, h2, h3⟩ := h; exact ⟨h2.cells 0 rfl, h2.cells 1 rfl⟩
theorem Jd.setX (h : Jd w0 n d bn bd bw k X W) (hb : Below W.heap.size W W') (Y : List Nat) (hY : ∀ b ∈ Y, W.heap.size ≤ b ∧ b < W'.heap.size) : Jd w0 n d bn bd bw k Y W' := by
 obtain ⟨D, A, nn, c, B, m, bb, W0, h1, h2, h3⟩ := h
 have hl0 := (h2.blk 0 rfl).lt
 have hl1 := (h2.blk 1 rfl).lt
 have hl2 := (h2.blk 2 rfl).lt
 exact ⟨D, A, nn, c, B, m, bb, _, h1, h2.step hb, (h3.fresh (keeps_dk d D) hb Y hY).rebase Y [bn, bd, bw] (fun j hj => .inr (List.mem_append_right _ hj)) (fun j hj => .inl (List.mem_append_left _ hj)) (fun j hj hm => by have h1 := (hY j hj).1; simp only [List.mem_cons, List.not_mem_nil, or_false] at hm; omega)⟩
end
theorem Away.comp {X : List Nat} {a b c : World} (h : Away X a b) (k : Away X b c) : Away X a c := by
 obtain ⟨S, h1, h2⟩ := h
 obtain ⟨T, k1, k2⟩ := k
 refine ⟨S ++ T, (h1.mono (fun s hs => .inl (List.mem_append_left _ hs))).trans (k1.mono (fun s hs => .inl (List.mem_append_right _ hs))), fun j hj hm => ?_⟩
 rcases List.mem_append.1 hm with hm | hm
 ·exact h2 j hj hm
 ·exact k2 j hj hm
theorem Away.sub {X Y : List Nat} {a b : World} (h : Away X a b) (hs : ∀ j ∈ Y, j ∈ X) : Away Y a b := by
 obtain ⟨S, h1, h2⟩ := h
 exact ⟨S, h1, fun j hj => h2 j (hs j hj)⟩
/-- The blocks of a slice of pages. -/
theorem Pl.blocks {W : World} {base : Nat} {v : Value} {l : List (List UInt8)} (h : Pl W base v l) : ∃ X : List Nat, (∀ b ∈ X, base ≤ b ∧ b < W.heap.size) ∧ ∀ W', Away X W W' → Pl W' base v l := by
 have hlt := h.lt
 obtain ⟨vs, h1, h0, h2⟩ := h
 have hvl : vs.length = l.length := by have := h1.1; omega
 refine ⟨v.ownBlock.toList ++ (vs.map fun u => u.ownBlock.toList).flatten, fun b hb => ?_, fun W' ⟨T, k, hT⟩ => ?_⟩
 ·rcases List.mem_append.1 hb with hb | hb
  ·have e : v.ownBlock = some b := by simpa using hb
   exact ⟨h0 b e, hlt b e⟩
  ·obtain ⟨q, hq, hb⟩ := List.mem_flatten.1 hb
   obtain ⟨u, hu, rfl⟩ := List.mem_map.1 hq
   obtain ⟨i, hi, rfl⟩ := List.mem_iff_getElem.1 hu
   have e : vs[i].ownBlock = some b := by simpa using hb
   have := (h2 i vs[i] (l[i]'(by omega)) (List.getElem?_eq_getElem hi) (List.getElem?_eq_getElem (by omega))).2 b e
   exact ⟨this.1, this.2.1⟩
 ·refine ⟨vs, Row.touch h1 k (fun j hj => hT j (List.mem_append_left _ (by simpa using hj))), h0, fun i u p hu hp => ?_⟩
  obtain ⟨q1, q2⟩ := h2 i u p hu hp
  refine ⟨q1.touch k (fun j hj => hT j (List.mem_append_right _ (List.mem_flatten.2 ⟨_, List.mem_map.2 ⟨u, List.mem_iff_getElem?.2 ⟨i, hu⟩, rfl⟩, by simpa using hj⟩))), fun j hj => ⟨(q2 j hj).1, Nat.lt_of_lt_of_le (q2 j hj).2.1 k.size, (q2 j hj).2.2⟩⟩
/-- The reference's disk alone is turned; the call tells a code too. -/
theorem Zs.refDE {P : World → List Nat → Prop} {w0 W0 W : World} {X M : List Nat} {D : DS} {J : JS} (hP : Keeps P) {A : Option Addr} {n c : Nat} {B : Option Addr} {m b : Nat} {fz : Int} {fl : Bool} {t : Int} {s : Value} {q : Value} {u : Int} {br : Bool} (h : Zs P w0 W0 X M W (.agg (rjc A n c B m b fz fl t s q u br).toArray) D J) {r : DS × Int} {f : FuncId} {args : Array Value}
 (hc : ∀ F, Rf W F (.agg #[.slice A n c, .slice B m b, .int .i64 fz, .bool fl]) D → (∀ j ∈ F, j < W.heap.size) → Calls Tryz.prog f args W (GivesRE W F r)) :
 Calls Tryz.prog f args W fun e W' => ∃ A' n' c' B' m' b', e = .returned (.tuple #[.agg #[.slice A' n' c', .slice B' m' b', .int .i64 r.1.fuse, .bool r.1.failed], .int .i64 r.2]) ∧ Below W.heap.size W W' ∧ Zs P w0 W0 X M W' (.agg (rjc A' n' c' B' m' b' r.1.fuse r.1.failed t s q u br).toArray) r.1 J := by
 obtain ⟨G, h1, h2, h3, h4, h5, h6, h7⟩ := h
 obtain ⟨A0, n0, c0, B0, m0, b0, rw_, hv, hrf, hrs, hap⟩ := h3
 have hv2 := congrArg (fun x : Value => match x with | .agg a => a.toList | _ => []) hv
 simp only [rjc, List.cons.injEq, Value.slice.injEq, Value.int.injEq, Value.bool.injEq, true_and, and_true] at hv2
 obtain ⟨⟨rfl, rfl, rfl⟩, ⟨rfl, rfl, rfl⟩, rfl, rfl, rfl, rfl, rfl, rfl, rfl⟩ := hv2
 refine (hc (G ++ M ++ X) hrf (fun j hj => ?_)).mono ?_
 ·rcases List.mem_append.1 hj with hj | hj
  ·rcases List.mem_append.1 hj with hj | hj
   ·exact hP.lt _ _ h1 j hj
   ·exact (h5 j hj).2
  ·exact Nat.lt_of_lt_of_le (h4 j hj).1 h6.size
 rintro e W' ⟨v', rfl, hr, k⟩
 obtain ⟨A', n', c', B', m', b', vs', xs', rfl, hk'⟩ := hr.form
 exact ⟨A', n', c', B', m', b', rfl, k, G, hP.touch _ _ [] _ h1 (Touch.below k []) (by simp), h2, ⟨A', n', c', B', m', b', _, rfl, hr, hrs.step k, fun j hj => ⟨Nat.lt_of_lt_of_le (hap j hj).1 k.size, (hap j hj).2⟩⟩, h4, fun j hj => ⟨(h5 j hj).1, Nat.lt_of_lt_of_le (h5 j hj).2 k.size⟩, h6.next (Touch.below k []) (by simp) (fun j hj => (h4 j hj).1), Nat.le_trans h7 k.size⟩
end
section
open List renaming getElem_toArray → qa, getElem_cons_zero → qb, getElem_cons_succ → qc, setIfInBounds_toArray → qd, set_cons_zero → qe, set_cons_succ → qf
open Go.ChangeShapes Go.WideShapes Go.ChangeAt Go.RowKit
theorem Zs.turnX {P P' : World → List Nat → Prop} {w0 W0 W : World} {X M : List Nat} {v : Value} {D : DS} {J : JS} (h : Zs P w0 W0 X M W v D J) {R : Ending → Prop} {f : FuncId} {args : Array Value} (hc : ∀ G, P W G → (∀ j ∈ G, j ∉ X) → Calls Tryz.prog f args W fun e W' => R e ∧ Turns P' W G W') :
 Calls Tryz.prog f args W fun e W' => R e ∧ Zs P' w0 W0 X M W' v D J ∧ Stays w0 M W W' := by
 have h' := h
 obtain ⟨G, h1, h2, h3, h4, h5, h6, h7⟩ := h
 exact Zs.turn (P := fun W' G' => W' = W ∧ G' = G ∧ P W G) ⟨G, ⟨rfl, rfl, h1⟩, h2, h3, h4, h5, h6, h7⟩ (fun G' hG' => by
  obtain ⟨_, rfl, h1'⟩ := hG'
  exact hc G' h1' (fun j hj => (h2 j hj).2.1))
theorem wpList_sliceV {ops : Array Oper} {rest : List Oper} {o : Oper} {a : Act} {w : World} {Q : Exit → Act → World → Prop} (hgd : o.guard = none) (x h : Operand) (ho : o.op = .slice 35 x none (some h) none) {u v r : Value} (hx : a.eval x = u) (hh : a.eval h = v)
 (hr : (Instr.sliceAt 35 u none (some v) none).run Tryz.prog w = .ok r w) (k : wpList Tryz.prog ops Q rest (a.put o.dst r) w) : wpList Tryz.prog ops Q (o :: rest) a w := by
 refine wpList_plain hgd fun K hK => ?_
 unfold Oper.wp execOp
 simp only [ho, hx, hh, Option.map_none, Option.map_some, Sem.run_bind, hr, Result.andThen_ok]
 exact hK _ _ k
/-- The page that is written. -/
def pageB (l : List UInt8) : List UInt8 := l.take 128 ++ List.replicate (128 - (l.take 128).length) 0
theorem pageB_len (l : List UInt8) : (pageB l).length = 128 := by unfold pageB; simp; omega
set_option maxHeartbeats 8000000 in
theorem jwrite_c (w0 : World) (n d bn bd bw k : Nat) (hn : 8 ≤ n ∧ n ≤ 4096) (hk : k ≤ 1000) (at_ : Int) (ha : 0 ≤ at_ ∧ at_ ≤ 1000000) (v : Value) (l : List UInt8) (W : World) (X : List Nat) (h : Jd w0 n d bn bd bw k X W) (hv : Bs W v l) :
 Calls Tryz.prog 11 #[.int .i64 at_, v, .pointer (some ⟨bd, 0, none⟩), .pointer (some ⟨bn, 0, none⟩), .pointer (some ⟨bw, 0, none⟩)] W fun e W' => e = .returned (.tuple #[]) ∧ Jd w0 n d bn bd bw (k + 1) X W' ∧ Away X W W' := by
 obtain ⟨D, A, nn, c, B, m, bb, W0, hcs, hO, hZ⟩ := h
 obtain ⟨Av, nv, cv, rfl, hnv, hx1, hx2⟩ := hv.formN
 obtain ⟨q, hq⟩ : ∃ q : Nat, min nv 128 = q := ⟨_, rfl⟩
 have hqi : min (nv : Int) 128 = (q : Int) := by omega
 have hq0 : (0 : Int) ≤ (q : Int) := by omega
 have hqn : (q : Int) ≤ (nv : Int) := by omega
 have hq8 : (q : Int) ≤ 128 := by omega
 have HQ : Hid (q = (l.take 128).length) := hide (by rw [List.length_take, ← hnv.out]; omega)
 have HB := hide hv
 have HCS := hide hcs
 have HO := hide hO
 have HZ := hide hZ
 have HXL : Hid ((∀ j ∈ X, j < W.heap.size) ∧ ∀ j ∈ X, j ∉ [bn, bd, bw]) := hide (by
  obtain ⟨G, _, _, _, h4, _, h6, _⟩ := hZ
  exact ⟨fun j hj => Nat.lt_of_lt_of_le (h4 j hj).1 h6.size, fun j hj => (h4 j hj).2⟩)
 have HQT : Hid (l.take q = l.take 128) := hide (by
  rcases Nat.lt_or_ge nv 128 with h1 | h1
  ·have : q = l.length := by rw [← hnv.out]; omega
   rw [this, List.take_length, List.take_of_length_le (by rw [← hnv.out]; omega)]
  ·rw [show q = 128 by omega])
 have HBT : Hid (Bs W (.slice Av q cv) (l.take q)) := hide (hv.take (by omega))
 have HLN : Hid (([] : List UInt8).length + (l.take q).length ≤ 140737488355328) := hide (by simp; omega)
 have HQL : Hid ((l.take q).length = q) := hide (by rw [List.length_take, ← hnv.out]; omega)
 clear hcs hO hZ hv hq HB hnv
 have hsl : ∀ X : World, (Instr.sliceAt 35 (.slice Av nv cv) none (some (.int .i64 (q : Int))) none).run Tryz.prog X = .ok (.slice Av q cv) X := fun X => by
  rw [run_sliceAt_slice (P := Tryz.prog) X 35 _ _ _ _ Tryz.underlying35, run_slice_h (P := Tryz.prog) X 35 Av nv cv Tryz.underlying35 .i64 (q : Int) hq0 (by omega)]
  cases Av <;> simp [sliced, go_sem]
 have HSL := hide hsl
 clear hsl
 go_enter Tryz.func11, Tryz.ntmps11
 go_wp2_with (first
  | (refine wpList_sliceV rfl (.tmp 9) (.tmp 12) rfl rfl rfl HSL.out ?_)
  | (at_builtin; refine wpList_append_bs rfl (.tmp 8) (.tmp 13) rfl W.heap.size (v := .slice (some ⟨W.heap.size, 0, none⟩) 0 0) (vx := .slice Av q cv) (l := []) (m := l.take q) rfl (Ow.empty W) rfl (HBT.out.alloc _) HLN.out (by simp) ?_; intro v1 w1 how hg hat; have HOW := hide how; have HG1 := hide hg; have HAT1 := hide hat; clear how hg hat; refine Hid.out ?_))
 refine hide ?_
 have ho7 : Ow w1 W.heap.size v1 (l.take q) := by simpa using HOW.out
 have hne : v1.ownBlock ≠ none := by rcases HAT1.out with h | h <;> rw [h] <;> simp [Value.ownBlock]
 have hb1 : Below W.heap.size W w1 := ((Below.refl _ W).alloc (Nat.le_refl _) _).grown HG1.out (by simp) (fun k hk => by have hk2 : some W.heap.size = some k := hk; injection hk2 with hk2; omega)
 obtain ⟨v2, w2, hr, ho2, hg2, hat2⟩ := run_append_zerosN W.heap.size 35 ho7 hne (128 - q) (by rw [HQL.out]; omega) hb1.size
 rw [show ((128 - q : Nat) : Int) = 128 - (q : Int) by omega] at hr
 have HR := hide hr
 have hb2 : Below W.heap.size W w2 := hb1.grown hg2 hb1.size (fun k hk => (ho7.lt k hk).1)
 have hpg : l.take q ++ List.replicate (128 - q) 0 = pageB l := by unfold pageB; rw [HQT.out, ← HQT.out, HQL.out]
 rw [hpg] at ho2
 have HP0 := hide ho2
 have HB2 := hide hb2
 clear hr hb1 ho7 hne hg2 hat2 hb2 ho2 hpg HOW HG1 HAT1 HSL HBT HLN
 go_wp2_with (at_builtin; refine wpList_append_z rfl (.tmp 14) (.tmp 18) rfl rfl rfl HR.out ?_; refine Hid.out ?_)
 refine hide ?_
 obtain ⟨A7, m7, c7, rfl, hm7, hx3, hx4⟩ := HP0.out.formN
 have HBX : Hid (∀ j ∈ (Value.slice A7 m7 c7).ownBlock.toList, W.heap.size ≤ j ∧ j < w2.heap.size) := hide (fun j hj => HP0.out.lt j (by simpa using hj))
 have hl0 := (HO.out.blk 0 rfl).lt
 have hl1 := (HO.out.blk 1 rfl).lt
 have hl2 := (HO.out.blk 2 rfl).lt
 have hz := (HZ.out.fresh (keeps_dk d D) HB2.out (Value.slice A7 m7 c7).ownBlock.toList HBX.out).rebase (X ++ (Value.slice A7 m7 c7).ownBlock.toList) [bn, bd, bw] (fun j hj => (List.mem_append.1 hj).imp id (fun h => List.mem_append_right _ h)) (fun j hj => .inl (List.mem_append_left _ hj)) (fun j hj hm => by
  rcases List.mem_append.1 hj with hj | hj
  ·exact HXL.out.2 j hj hm
  ·have h1 := (HBX.out j hj).1
   simp only [List.mem_cons, List.not_mem_nil, or_false] at hm
   omega)
 have HAW : Hid (Away X W w2) := hide ((Away.refl X W).next (Touch.below HB2.out []) (by simp) HXL.out.1)
 replace HZ := hide hz
 replace HO := hide (HO.out.step HB2.out)
 have HP := HP0
 have HPW := HP0
 clear hz hl0 hl1 hl2 hm7 hx3 hx4 HBX HR HB2 HP0
 obtain ⟨fz, hfz⟩ : ∃ z, D.fuse = z := ⟨_, rfl⟩
 obtain ⟨fl, hfl⟩ : ∃ z, D.failed = z := ⟨_, rfl⟩
 rw [hfz, hfl] at HO HZ
 have HFZ := hide hfz
 have HFL := hide hfl
 clear hfz hfl
 unfold rjc at HZ
 have hn8 : (8 : Int) ≤ (n : Int) := by omega
 have hn0 : ¬ n = 0 := by omega
 have htm : at_.tmod (n : Int) = at_ % (n : Int) := Int.tmod_eq_emod_of_nonneg ha.1
 clear hqi hq0 hqn hq8 HQ HQT HQL
 go_wp2_with fail
 refine wp_region_held_drew (S := fun W => (∀ j, W.cell? ⟨bn, j, none⟩ = ([.int .i64 n] : List Value)[j]?) ∧ (∀ j, W.cell? ⟨bd, j, none⟩ = ([.pointer (some ⟨d, 0, none⟩)] : List Value)[j]?)) (by kernel_rfl) (⟨HO.out.drew.cells 0 rfl, HO.out.drew.cells 1 rfl⟩) (fun hS0 => ?_)
 replace HO := hide HO.out.drew
 replace HZ := hide (HZ.out.step (keeps_dk d D) (below_drew _))
 replace HP := hide (HP.out.step (below_drew _))
 refine tk 0 ?_
 refine tk 1 ?_
 refine tk 2 ?_
 refine tk 3 ?_
 refine tk 4 ?_
 refine tr1 5 fun K hK => ?_
 go_simp
 refine (Zs.turnX (P' := fun W G => Disk W d G (dWrite D (at_ % (n : Int)) (pageB l)).1) (R := fun e => e = .returned (.int .i64 (dWrite D (at_ % (n : Int)) (pageB l)).2)) HZ.out (fun G hG hX => (write_c d G D (at_ % (n : Int)) (.slice A7 m7 c7) (pageB l) _ hG HP.out.bs (fun _ j hj => ⟨fun hm => hX j hm (List.mem_append_right _ (by simpa using hj)), (HP.out.lt j hj).2⟩) (by have := HCS.out.few; omega)).mono fun e w' h => turns_does h)).mono ?_
 rintro e w8 ⟨rfl, hz, hst⟩
 replace HO := hide (hst [(bn, 3, [.int .i64 n]), (bd, 26, [.pointer (some ⟨d, 0, none⟩)]), (bw, 32, [.slice A nn c, .slice B m bb, .int .i64 fz, .bool fl])] (by simp) HO.out)
 replace HZ : Hid (Zs (fun W G => Disk W d G (dWrite D (at_ % (n : Int)) (pageB l)).1) _ _ _ _ _ _ _ _) := hide hz
 clear hst hz
 refine hK.out _ _ (⟨HO.out.cells 0 rfl, HO.out.cells 1 rfl⟩) (fun hS5 => ?_)
 clear hK K
 try simp only [Act.put, qa, qb, qc, qd, qe, qf]
 refine wpAnyH_done (by kernel_rfl) ?_ _
 clear hS0
 replace HP := hide (by obtain ⟨S, hS, hx⟩ := HZ.out.away; exact HPW.out.touch hS (fun j hj => hx j (List.mem_append_right _ (by simpa using hj))))
 go_wp2_with fail
 refine wp_region_held_drew (S := fun W => (∀ j, W.cell? ⟨bn, j, none⟩ = ([.int .i64 n] : List Value)[j]?)) (by kernel_rfl) (HO.out.drew.cells 0 rfl) (fun hS0 => ?_)
 replace HO := hide HO.out.drew
 replace HZ := hide (HZ.out.step (keeps_dk d (dWrite D (at_ % (n : Int)) (pageB l)).1) (below_drew _))
 replace HP := hide (HP.out.step (below_drew _))
 refine tk 1 ?_
 refine tk 2 ?_
 refine tk 3 ?_
 refine tk 4 ?_
 refine tr1 0 fun K hK => ?_
 refine step_load_own HO.out rfl 32 (.tmp 4) rfl 2 _ 0 4 _ _ ([.slice A nn c, .slice B m bb, .int .i64 fz, .bool fl]) _ rfl (take_all rfl) rfl Tryz.underlying32 rfl (by kernel_rfl) ?_
 refine hK.out _ _ (HO.out.cells 0 rfl) (fun hS4 => ?_)
 clear hK K
 try simp only [Act.put, qa, qb, qc, qd, qe, qf]
 refine tr1 5 fun K hK => ?_
 go_simp
 refine (Zs.refDE (keeps_dk d (dWrite D (at_ % (n : Int)) (pageB l)).1) (r := (dWrite D (at_ % (n : Int)) (pageB l))) HZ.out (fun F hr hF => put_c F _ D (at_ % (n : Int)) (pageB l) (.slice A7 m7 c7) _ hr hF HP.out.bs (by have := HCS.out.few; omega))).mono ?_
 rintro e w9 ⟨A6, nn6, c6, B6, m6, bb6, rfl, hb9, hz⟩
 replace HO := hide (HO.out.step hb9)
 replace HZ := hide hz
 generalize hf6 : (dWrite D (at_ % (n : Int)) (pageB l)).1.fuse = fz6 at HZ ⊢
 generalize hl6 : (dWrite D (at_ % (n : Int)) (pageB l)).1.failed = fl6 at HZ ⊢
 have HF6 := hide hf6
 have HL6 := hide hl6
 unfold rjc at HZ
 clear hz hb9 hf6 hl6
 refine hK.out _ _ (HO.out.cells 0 rfl) (fun hS5 => ?_)
 clear hK K
 try simp only [Act.put, qa, qb, qc, qd, qe, qf]
 refine tk 6 ?_
 refine tk 7 ?_
 refine tk 8 ?_
 refine tr1 9 fun K hK => ?_
 refine step_store_own_t HO.out rfl 32 (.tmp 4) (.tmp 33) rfl 2 _ 0 _ _ ([.slice A6 nn6 c6, .slice B6 m6 bb6, .int .i64 fz6, .bool fl6]) ([.slice A6 nn6 c6, .slice B6 m6 bb6, .int .i64 fz6, .bool fl6]) rfl (.agg ([.slice A6 nn6 c6, .slice B6 m6 bb6, .int .i64 fz6, .bool fl6] : List Value).toArray) rfl rfl (fits_agg _) (by simp) rfl (by kernel_rfl) rfl ?_
 intro WA hO _ ht
 replace HZ := hide (HZ.out.put (keeps_dk d (dWrite D (at_ % (n : Int)) (pageB l)).1) (by simp) ht)
 replace HO := hide hO
 clear hO ht
 refine hK.out _ _ (HO.out.cells 0 rfl) (fun hS9 => ?_)
 clear hK K
 try simp only [Act.put, qa, qb, qc, qd, qe, qf]
 refine wpAnyH_done (by kernel_rfl) ?_ _
 clear hS0
 go_wp2_with fail
 go_end0
 have hz := HZ.out.rebase X [bn, bd, bw] (fun j hj => .inl (List.mem_append_left _ hj)) (fun j hj => .inl hj) HXL.out.2
 exact ⟨rfl, ⟨_, A6, nn6, c6, B6, m6, bb6, _, HCS.out.write _ _, by rw [HF6.out, HL6.out]; exact HO.out, by rw [HF6.out, HL6.out]; exact hz⟩, HAW.out.comp (HZ.out.away.sub (fun j hj => List.mem_append_left _ hj))⟩
end
end Go.Proofs.YtpadgkkeihhneaaGreat
