/- page, (part).bytes. -/
import Derived.Test.YtpadgkkeihhneaaGreatC05
import Derived.Test.YtpadgkkeihhneaaGreatC06
import Derived.Test.YtpadgkkeihhneaaGreatC02
import Derived.Test.YtpadgkkeihhneaaGreatC03
import Derived.Test.YtpadgkkeihhneaaGreatC01
import Derived.Laws.CopyOwn
namespace Go.Proofs.YtpadgkkeihhneaaGreat
set_option maxRecDepth 100000
set_option linter.unusedSimpArgs false
set_option linter.unusedVariables false
open Go.ChangeShapes Go.WideShapes Go.ChangeAt Go.RowKit
theorem at_copy (x y : Operand) {tt : Array TypeId} {P : Program} {w : World} {ops : Array Oper} {rest : List Oper} {d : Option Tmp} {t : TypeId} {p : String} {af : Array Edge} {g : Option (Nat × Bool)} {a : Act} {Q : Exit → Act → World → Prop}
 (h : wpList P ops Q ({ dst := d, op := .call { callee := .builtin .copy, args := #[x, y], argTypes := tt }, type := t, pos := p, after := af, guard := g } :: rest) a w) : wpList P ops Q ({ dst := d, op := .call { callee := .builtin .copy, args := #[x, y], argTypes := tt }, type := t, pos := p, after := af, guard := g } :: rest) a w := h
theorem make128 (W : World) : (Instr.makeSlice 35 (.int .i64 128) (.int .i64 128)).run Tryz.prog W = .ok (.slice (some ⟨W.heap.size, 0, none⟩) 128 128) (W.alloc (.cells (zb 128) 5)) := run_make_bytes 128 (by decide) W
theorem Bs.src {w : World} {A : Option Addr} {n c : Nat} {l : List UInt8} (h : Bs w (.slice A n c) l) (h0 : 0 < (l.map bv).length) : ∃ ad, A = some ad ∧ ∀ j v, (l.map bv)[j]? = some v → w.cell? (ad.add j) = some v := by
 obtain ⟨A', c', hv, h1, h2, h3⟩ := h
 injection hv with e1 e2 e3
 subst e1 e2 e3
 rw [List.length_map] at h0
 obtain ⟨b, off, rfl, hb, hc⟩ := h3 h0
 refine ⟨_, rfl, fun j v hj => ?_⟩
 rw [List.getElem?_map] at hj
 have hjl : j < l.length := by
  rcases Nat.lt_or_ge j l.length with h | h
  ·exact h
  ·rw [List.getElem?_eq_none h] at hj; cases hj
 rw [List.getElem?_eq_getElem hjl] at hj
 rw [add_plain, hc j hjl]
 exact hj
theorem splice_page (l : List UInt8) (h : l.length ≤ 128) : splice (zb 128).toList 0 (l.map bv) = (l ++ List.replicate (128 - l.length) 0).map bv := by
 unfold splice
 rw [zb_list, List.take_zero, List.nil_append, ← List.map_drop, ← List.map_append]
 rw [List.length_map, Nat.zero_add, List.drop_replicate]
theorem Ow.of_blk {w : World} {base g n : Nat} {l : List UInt8} (h : Blk w g 5 (l.map bv).toArray) (hb : base ≤ g) (hn : n = l.length) (hl : l.length ≤ maxLen) : Ow w base (.slice (some ⟨g, 0, none⟩) n n) l := by
 subst hn
 exact ⟨by simp, .inr ⟨g, l.length, _, rfl, hb, h, Nat.le_refl _, hl, by simp, by rw [List.take_of_length_le (by simp)]⟩⟩
set_option maxHeartbeats 1000000 in
theorem page_c (v : Value) (l : List UInt8) (hl : l.length ≤ 124) (w : World) (h : Bs w v l) : Calls Tryz.prog 72 #[v] w (Fresh w (pageOf l)) := by
 have hm := make128
 have H := hide h
 have HL := hide hl
 clear h hl
 have i1 : (Tryz.prog.info? 5).map (·.size) = some 1 := by kernel_rfl
 have I1 := hide i1
 clear i1
 go_enter Tryz.func72, Tryz.ntmps72
 go_wp2_with fail
 clear hm
 have HV := hide (H.out.alloc (.cells (zb 128) 5))
 have HB1 := hide (Blk.new w 5 (zb 128))
 have HW := hide ((Below.refl w.heap.size w).alloc (Nat.le_refl _) (.cells (zb 128) 5))
 obtain ⟨g, hg⟩ : ∃ g, w.heap.size = g := ⟨_, rfl⟩
 have HG := hide hg
 rw [hg] at HB1 HW ⊢
 clear hg
 generalize w.alloc (.cells (zb 128) 5) = w1 at *
 refine (seal_c v l w1 HV.out (by have := HL.out; omega)).mono ?_
 rintro e w2 ⟨v2, rfl, ho, hb⟩
 obtain ⟨A, m, c, rfl, hm, _, _⟩ := ho.formN
 have HB2 := hide (HB1.out.step hb)
 have HW2 := hide (HW.out.trans (hb.mono (Nat.le_of_lt HB1.out.lt)))
 have HBS := hide ho.bs
 have HM : Hid (((seal_ l).map bv).length = Nat.min m 128) := by
  unfold Hid
  have := HL.out
  have e := seal_len l
  rw [hm.out, List.length_map]
  exact (Nat.min_eq_left (by omega)).symm
 have HF : Hid (0 + ((seal_ l).map bv).length ≤ (zb 128).toList.length) := by
  unfold Hid
  have := HL.out
  have e := seal_len l
  rw [zb_list]; simp; omega
 clear ho hb hm
 go_wp2_with ((with_reducible refine at_copy (.tmp 5) (.tmp 7) ?_); refine wpList_copy_splice rfl (.tmp 5) (.tmp 7) 35 35 rfl 5 Tryz.underlying35 I1.out (some ⟨g, 0, none⟩) A 128 128 m c rfl rfl g 0 (zb 128).toList 5 HB2.out ((seal_ l).map bv) HM.out (fun h0 => ⟨rfl, HBS.out.src h0⟩) HF.out (fun u hu => by obtain ⟨x, _, rfl⟩ := List.mem_map.1 hu; exact bv_one x) g w HW2.out (Nat.le_refl _) ?_; intro w3 hg3 hb3)
 go_ret
 have hz : (seal_ l).length ≤ 128 := by have := HL.out; rw [seal_len]; omega
 have hp := pageOf_len l HL.out
 have h3 := hg3.out
 rw [splice_page (seal_ l) hz] at h3
 have hge := HG.out
 subst hge
 exact ⟨_, rfl, Ow.of_blk h3 (Nat.le_refl _) hp.symm (by rw [hp]; decide), hb3⟩
end Go.Proofs.YtpadgkkeihhneaaGreat
